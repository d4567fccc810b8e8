/-
  frame.Sum, walked: it is the cyclic sum.
-/
import Derived.Test.YtjlfoiocceepjaaCrc
import Derived.Test.YtjlfoiocceepjaaChecked
import Derived.Test.YtjlfoiocceepjaaBlk
import Derived.Deep.LoopGhost
import Derived.IntWalk
import Derived.Laws.BitsAllLaws
namespace Go.Proofs.Ytjlfoiocceepjaa
open Go.RowKit
set_option linter.unusedVariables false
set_option linter.unusedSimpArgs false

def u32 (c : BitVec 32) : Value := .int .u32 (c.toNat : Int)
theorem xor_bv (a b : BitVec 32) : bits .xor .u32 (a.toNat : Int) (b.toNat : Int) = ((a ^^^ b).toNat : Int) := by
  rw [u32_xor_nat _ _ a.isLt b.isLt, BitVec.toNat_xor]
theorem step_bv (x : BitVec 32) : bits .xor .u32 ((x.toNat : Int) / 2) (bits .and .u32 (x.toNat : Int) 1 * 3988292384 % 4294967296) = ((cstep x).toNat : Int) := by
  have h1 : bits .and .u32 (x.toNat : Int) 1 = ((x.toNat % 2 : Nat) : Int) := by
    have := u32_and_nat x.toNat 1 x.isLt (by decide)
    rw [Nat.and_one_is_mod] at this
    exact this
  have h2 : (x.toNat : Int) / (2 : Int) = ((x >>> 1).toNat : Int) := by
    rw [BitVec.toNat_ushiftRight, Nat.shiftRight_eq_div_pow]; omega
  have h3 : ((x.toNat % 2 : Nat) : Int) * 3988292384 % 4294967296 = ((if x.getLsbD 0 then 0xedb88320#32 else 0#32).toNat : Int) := by
    have hb : x.getLsbD 0 = decide (x.toNat % 2 = 1) := by
      unfold BitVec.getLsbD; rw [Nat.testBit_zero]
    rcases Nat.mod_two_eq_zero_or_one x.toNat with h | h
    · rw [hb, h]; rfl
    · rw [hb, h]; rfl
  rw [h1, h2, h3, xor_bv]
  rfl
theorem not_bv (c : BitVec 32) : bits .xor .u32 IntKind.u32.max (c.toNat : Int) = ((~~~c).toNat : Int) := by
  have h : (IntKind.u32.max : Int) = ((BitVec.allOnes 32).toNat : Int) := by decide
  rw [h, xor_bv, BitVec.allOnes_xor]
theorem wide_nat (b : UInt8) : (b.toNat : Int) % 4294967296 = ((wide b).toNat : Int) := by
  have h : (wide b).toNat = b.toNat := by
    unfold wide
    rw [BitVec.toNat_setWidth]
    have := b.toBitVec.isLt
    exact Nat.mod_eq_of_lt (by omega)
  have := b.toBitVec.isLt
  have h2 : b.toNat < 256 := b.toNat_lt
  rw [h]; omega
theorem cfeed_next (s : ByteArray) (k : Nat) (h : k < s.size) (c : BitVec 32) : cfeed c (s.data.toList.take (k + 1)) = csteps 8 (cfeed c (s.data.toList.take k) ^^^ wide s[k]) := by
  have e : s.data.toList.take (k + 1) = s.data.toList.take k ++ [s[k]] := by rw [List.take_succ_eq_append_getElem (by simpa using h)]; rfl
  rw [e, cfeed_append]; rfl
theorem csteps_succ : ∀ (n : Nat) (c : BitVec 32), csteps (n + 1) c = cstep (csteps n c)
  | 0, _ => rfl
  | n + 1, c => by rw [csteps, csteps_succ n]; rfl
set_option maxRecDepth 100000 in
set_option maxHeartbeats 1000000 in
theorem sum_any (s : ByteArray) (w : World) (hs : s.size ≤ 140737488351232) :
    Calls Try.prog 5 #[.string s] w fun e w' => e = .returned (u32 (csum s.data.toList)) ∧ w = w' := by
  go_enter Try.func5, Try.ntmps5
  go_wp2_with fail
  go_loop [3, 7] (fun cv iv => ∃ (k : Nat) (c : BitVec 32), k ≤ s.size ∧ iv = .int .i64 k ∧ cv = .int .u32 (c.toNat : Int) ∧ Hid (c = cfeed (BitVec.allOnes 32) (s.data.toList.take k))) (fun _ iv => s.size - (intOf iv).toNat)
  case atStart => exact ⟨0, BitVec.allOnes 32, Nat.zero_le _, rfl, rfl, Lib.hid (by simp [cfeed])⟩
  case round =>
    obtain ⟨k, c, hk, rfl, rfl, hc⟩ := hrel
    by_cases hlt : k < s.size
    · obtain ⟨d, hd⟩ : ∃ d, d = c ^^^ wide s[k] := ⟨_, rfl⟩
      have hx : bits BinOp.xor IntKind.u32 (c.toNat : Int) ((s[k].toNat : Int) % 4294967296) = (d.toNat : Int) := by rw [wide_nat, xor_bv, hd]
      have HD : Hid (csteps 8 d = cfeed (BitVec.allOnes 32) (s.data.toList.take (k + 1))) := Lib.hid (by rw [cfeed_next s k hlt, ← hc.out, hd])
      clear hd hc
      go_wp2_with fail
      go_loop [3, 16] (fun cv jv => ∃ (j : Nat) (x : BitVec 32), j ≤ 8 ∧ jv = .int .i64 j ∧ cv = .int .u32 (x.toNat : Int) ∧ Hid (x = csteps j d)) (fun _ jv => 8 - (intOf jv).toNat)
      case atStart => exact ⟨0, d, by omega, rfl, rfl, Lib.hid rfl⟩
      case round =>
        obtain ⟨j, x, hj, rfl, rfl, hx⟩ := hrel
        by_cases hj8 : j < 8
        · have hq := step_bv x
          have HQ : Hid (cstep x = csteps (j + 1) d) := Lib.hid (by rw [csteps_succ, hx.out])
          clear hx
          go_wp2_with fail
          go_round
          case rel => exact ⟨j + 1, cstep x, by omega, by go_num, rfl, HQ⟩
          case measure => simp [intOf]; omega
        · obtain rfl : j = 8 := by omega
          have HX : Hid (x = cfeed (BitVec.allOnes 32) (s.data.toList.take (k + 1))) := Lib.hid (hx.out.trans HD.out)
          clear hx HD
          go_wp2_with fail
          go_round
          case rel => exact ⟨k + 1, x, by omega, by go_num, rfl, HX⟩
          case measure => simp [intOf]; omega
    · obtain rfl : k = s.size := by omega
      have HX : Hid (c = cfeed (BitVec.allOnes 32) s.data.toList) := Lib.hid (by rw [hc.out, List.take_of_length_le (by simp)])
      obtain ⟨q, hq⟩ : ∃ q, q = ~~~c := ⟨_, rfl⟩
      have hn := not_bv c
      rw [← hq] at hn
      have HQ : Hid (csum s.data.toList = q) := Lib.hid (by unfold csum; rw [← HX.out, hq])
      clear hc hq
      go_wp2_with fail
      go_ret
      exact ⟨by rw [HQ.out]; rfl, rfl⟩
end Go.Proofs.Ytjlfoiocceepjaa
