/-
  The trie's Longest, walked.
-/
import Derived.Test.YtjlfoiocceepjaaTrieC
namespace Go.Proofs.Ytjlfoiocceepjaa.Trie
open Go.RowKit Go.Proofs.YtjlfoiocceepjaaW.PrintWords Go.Proofs.YtjlfoiocceepjaaW.PrintLast Go.Proofs.YtjlfoiocceepjaaW.PrintMore
set_option linter.unusedVariables false
set_option linter.unusedSimpArgs false

/-- the longest row that the first k tokens begin with, and its value -/
def lg (D : List (List Int)) (L : Lay) (l : List Int) : Nat → Nat × Int
  | 0 => (0, 0)
  | k + 1 => if l.take (k + 1) ∈ D ∧ L.th (l.take (k + 1)) = true then (k + 1, L.va (l.take (k + 1))) else lg D L l k
variable {B : Nat} {W : World} {t : Nat} {D : List (List Int)} {L : Lay} {cnt : Int} {K : Nat}
theorem lg_stop (h : TI B W t D L cnt K) (l : List Int) (k : Nat) (hk : k < l.length) (hd : l.take (k + 1) ∉ D) : ∀ n, k + n ≤ l.length → lg D L l (k + n) = lg D L l k
  | 0, _ => rfl
  | n + 1, hn => by
    have ih := lg_stop h l k hk hd n (by omega)
    show (if l.take (k + n + 1) ∈ D ∧ _ then _ else lg D L l (k + n)) = _
    rw [if_neg, ih]
    rintro ⟨h1, _⟩
    have h2 := h.front (l.take (k + n + 1)) h1 n (by rw [List.length_take]; omega)
    rw [List.length_take, List.take_take, show min (min (k + n + 1) l.length - n) (k + n + 1) = k + 1 by omega] at h2
    exact hd h2
set_option maxRecDepth 100000 in
set_option maxHeartbeats 4000000 in
theorem longest_any (h : TI B W t D L cnt K) (A : Option Addr) (c : Nat) (l : List Int) (hr : KI.C W A l.length l) (hw : ∀ x, x ∈ l → (Lit.int .i64 x).wf = true) (hlm : l.length ≤ 1000) :
    Calls Try.prog 10 #[.pointer (some ⟨t, 0, none⟩), .slice A l.length c] W fun e w' => e = .returned (.tuple #[.int .i64 ((lg D L l l.length).1 : Int), .int .i64 (lg D L l l.length).2]) ∧ Below W.heap.size W w' := by
  have HR := Lib.hid hr
  have HWf := Lib.hid hw
  have HLm := Lib.hid hlm
  obtain ⟨r, hres⟩ : ∃ r, r = lg D L l l.length := ⟨_, rfl⟩
  rw [← hres]
  have HRes := Lib.hid hres
  clear hr hw hres
  go_enter Try.func10, Try.ntmps10
  go_wp2_with fail
  go_loopw [6, 7, 8, 16] (fun sv vv nv iv wr => ∃ k : Nat, k ≤ l.length ∧ iv = .int .i64 (k : Int) ∧ sv = .int .i64 ((lg D L l k).1 : Int) ∧ vv = .int .i64 (lg D L l k).2 ∧ nv = .pointer (some ⟨L.ad (l.take k), 0, none⟩) ∧ l.take k ∈ D ∧ Hid (TI B wr t D L cnt K ∧ KI.C wr A l.length l ∧ Below W.heap.size W wr)) (fun _ _ _ iv _ => l.length - (intOf iv).toNat)
  case atStart => exact ⟨0, Nat.zero_le _, rfl, rfl, rfl, by rw [List.take_zero, h.rt], h.nil, Lib.hid ⟨h, HR.out, Below.refl _ _⟩⟩
  case round =>
    obtain ⟨k, hk, rfl, rfl, rfl, rfl, hD, HH⟩ := hrel
    by_cases hkl : k < l.length
    · obtain ⟨ad, hA, hat⟩ := KI_at HH.out.2.1 (by omega)
      subst hA
      have hcx := hat k hkl
      obtain ⟨x, hx⟩ : ∃ x, x = rd l (k : Int) := ⟨_, rfl⟩
      have hx2 : l[k] = x := by rw [hx]; simp [rd, hkl]
      rw [← hx] at hcx
      have hxw := HWf.out x (by rw [← hx2]; exact List.getElem_mem hkl)
      have hc0 := (HH.out.1.cells hD).1
      have hlk := HH.out.1.look hD x hxw
      have e : l.take k ++ [x] = l.take (k + 1) := by rw [List.take_succ_eq_append_getElem hkl, hx2]
      rw [e] at hlk
      have hkI : (k : Int) < (l.length : Int) := by omega
      clear hx hx2 hat e
      by_cases hd : l.take (k + 1) ∈ D
      · rw [if_pos hd] at hlk
        unfold ptrV at hlk
        simp only [Option.map_some] at hlk
        obtain ⟨_, d1, d2⟩ := HH.out.1.cells hd
        cases hth : L.th (l.take (k + 1)) with
        | true =>
          rw [hth] at d1
          have HS : Hid (lg D L l (k + 1) = (k + 1, L.va (l.take (k + 1)))) := Lib.hid (by show (if _ ∧ _ then _ else _) = _; rw [if_pos ⟨hd, hth⟩])
          go_wp2_with fail
          go_region
          go_wp2_with fail
          go_roundw
          case rel => exact ⟨k + 1, by omega, by go_num, by rw [HS.out]; go_num, by rw [HS.out], rfl, hd, Lib.hid ⟨HH.out.1.out (Below.refl _ _).drew, Kd.C_below HH.out.2.1 (Below.refl _ _).drew, HH.out.2.2.drew⟩⟩
          case measure => simp [intOf]; omega
        | false =>
          rw [hth] at d1
          have HS : Hid (lg D L l (k + 1) = lg D L l k) := Lib.hid (by show (if _ ∧ _ then _ else _) = _; rw [if_neg (fun hh => by rw [hth] at hh; cases hh.2)])
          go_wp2_with fail
          go_roundw
          case rel => exact ⟨k + 1, by omega, by go_num, by rw [HS.out], by rw [HS.out], rfl, hd, HH⟩
          case measure => simp [intOf]; omega
      · rw [if_neg hd] at hlk
        unfold ptrV at hlk
        simp only [Option.map_none] at hlk
        have hst := lg_stop h l k hkl hd (l.length - k) (by omega)
        rw [show k + (l.length - k) = l.length by omega] at hst
        have HSt := Lib.hid hst
        clear hst
        go_wp2_with fail
        go_ret2
        exact ⟨by rw [HRes.out, HSt.out]; rfl, HH.out.2.2⟩
    · obtain rfl : k = l.length := by omega
      go_wp2_with fail
      go_ret2
      exact ⟨by rw [HRes.out]; rfl, HH.out.2.2⟩
end Go.Proofs.Ytjlfoiocceepjaa.Trie
