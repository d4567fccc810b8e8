/-
  FrameBursts, walked.
-/
import Derived.Test.YtjlfoiocceepjaaDoorAwk
import Derived.Test.YtjlfoiocceepjaaDoorBurstP
import Derived.Test.YtjlfoiocceepjaaDoorLong
import Derived.Test.YtjlfoiocceepjaaDoorApart
namespace Go.Proofs.YtjlfoiocceepjaaDoor
open Go.RowKit
set_option linter.unusedVariables false
set_option linter.unusedSimpArgs false

theorem bit8_nat (e : Nat) : ((bit8 e).toNat : Int) = 2 ^ e % 256 := by
  have h : (bit8 e).toNat = 2 ^ e % 256 := by
    show (1#8 <<< e).toNat = _
    rw [BitVec.toNat_shiftLeft, Nat.shiftLeft_eq]
    simp
  rw [h]
  simp
theorem xor_u8 (y : UInt8) (e : Nat) : bits BinOp.xor IntKind.u8 (y.toNat : Int) (2 ^ e % 256) = ((y ^^^ bit8 e).toNat : Int) := by
  rw [← bit8_nat, u8_xor_nat _ _ y.toNat_lt (bit8 e).toNat_lt, UInt8.toNat_xor]
set_option maxRecDepth 100000 in
set_option maxHeartbeats 4000000 in
theorem bursts_in (A S x : ByteArray) (l : List UInt8) (k L : Nat) (b : Nat) (w : World) (hg : Gl w) (hb : b < 4294967296) (hL : L = 8 * x.size) (hk : k < L) (hx : x.size ≤ 510) (hl : x.data.toList = l)
    (H1 : Hid (∀ V, Calls Tryd.prog 14 #[.string A, .int .i64 500] V fun e w' => e = .returned (.string S) ∧ Below V.heap.size V w'))
    (H3 : Hid (∀ V, Calls Tryd.prog 15 #[.string S] V fun e w' => e = .returned (.tuple #[.string x, .nilIface]) ∧ Below V.heap.size V w'))
    (H4 : Hid ((bst l k b L 32).2 = true → ∃ why place : Int, why ≠ 0 ∧ ∀ V, Calls Tryd.prog 16 #[.string (str (bst l k b L 32).1)] V fun e w' => e = .returned (.tuple #[.string ⟨#[]⟩, .iface 41 (.agg #[.int .i64 place, .int .i64 why])]) ∧ Below V.heap.size V w'))
    (H5 : Hid ((bst l k b L 32).2 = false → ∀ V, Calls Tryd.prog 16 #[.string (str (bst l k b L 32).1)] V fun e w' => e = .returned (.tuple #[.string S, .nilIface]) ∧ Below V.heap.size V w')) :
    Calls Tryd.prog 4 #[.string A, .int .i64 (k : Int), .int .u32 (b : Int)] w (RetT w) := by
  have HG := Lib.hid hg
  have HB := Lib.hid (Below.refl w.heap.size w)
  have hL8 : 8 * (x.size : Int) = (L : Int) := by omega
  have hLl : L ≤ 4080 := by omega
  have hkI : (k : Int) < (L : Int) := by omega
  have hlen : l.length = x.size := by rw [← hl]; simp
  have HLen := Lib.hid hlen
  have HL := Lib.hid hL
  obtain ⟨mk, hmk⟩ : ∃ mk : World → World, mk = fun W => W.drew.alloc (.cells (bytesRow x (grownCap W x.size 0 5)) 5 ((bytesRow x (grownCap W x.size 0 5)).size, (bytesRow x (grownCap W x.size 0 5)).size + 1)) := ⟨_, rfl⟩
  obtain ⟨cp, hcp⟩ : ∃ cp : World → Nat, cp = fun W => grownCap W x.size 0 5 := ⟨_, rfl⟩
  have hcv : ∀ W, (convert 9 37 (.string x)).run Tryd.prog W = .ok (.slice (some ⟨W.heap.size, 0, none⟩) x.size (cp W)) (mk W) := fun W => by
    rw [hmk, hcp]; exact run_bytes_of_string W 9 37 5 x Tryd.underlying9 Tryd.underlying37 Tryd.underlying5
  have HZ : Hid (∀ W, Zrow (mk W) W.heap.size l ∧ Below W.heap.size W (mk W)) := Lib.hid (fun W => by
    rw [hmk, ← hl]
    exact ⟨Zrow.made W x _, (Below.refl W.heap.size W).drew.alloc (Nat.le_refl _) _⟩)
  clear hg hL hmk hcp hl
  go_enter Tryd.func4, Tryd.ntmps4
  go_wp2_with (first
    | (go_at_call 14; (with_reducible refine (H1.out _).mono ?_); rintro e w' ⟨rfl, hb⟩; have HB := Lib.hid (HB.out.trans (hb.mono HB.out.size)); have HG := Lib.hid (HG.out.out hb); clear hb)
    | (go_at_call 15; (with_reducible refine (H3.out _).mono ?_); rintro e w' ⟨rfl, hb⟩; have HB := Lib.hid (HB.out.trans (hb.mono HB.out.size)); have HG := Lib.hid (HG.out.out hb); clear hb)
    | fail)
  have HW : Hid (Zrow (mk w') w'.heap.size l ∧ w.heap.size ≤ w'.heap.size ∧ Below w.heap.size w (mk w') ∧ Gl (mk w') ∧ 0 < w'.heap.size) :=
    Lib.hid ⟨(HZ.out w').1, HB.out.size, HB.out.trans ((HZ.out w').2.mono HB.out.size), HG.out.out (HZ.out w').2, HG.out.pos⟩
  clear HZ hcv
  generalize mk w' = w2 at *
  generalize cp w' = q at *
  generalize w'.heap.size = g at *
  have e1 : decide ((k : Int) < 0) = false := decide_eq_false (by omega)
  have e2 : decide (L ≤ k) = false := decide_eq_false (by omega)
  rw [e1, e2, Bool.or_false]
  clear e1 e2
  go_loopw [10, 11] (fun tv iv wr => ∃ i : Nat, i ≤ 32 ∧ iv = .int .i64 (i : Int) ∧ tv = .bool (bst l k b L i).2 ∧ Hid (Zrow wr g (bst l k b L i).1 ∧ w.heap.size ≤ g ∧ Below w.heap.size w wr ∧ Gl wr ∧ 0 < g)) (fun _ iv _ => 32 - (intOf iv).toNat)
  case atStart => exact ⟨0, by omega, rfl, rfl, HW⟩
  case round =>
    clear HW
    obtain ⟨i, hi, rfl, rfl, H⟩ := hrel
    by_cases hlt : i < 32
    · have hsh := odd_int2 (b : Int) b i rfl
      obtain ⟨m, hm0⟩ : ∃ m, m = k + i := ⟨_, rfl⟩
      have hm : (k : Int) + (i : Int) = (m : Int) := by omega
      have hmk : k + i = m := hm0.symm
      have HS : Hid (bst l k b L (i + 1) = if b.testBit i = true ∧ m < L then (fl (bst l k b L i).1 m, true) else bst l k b L i) := Lib.hid (by rw [hm0]; rfl)
      have HBL := Lib.hid (bst_length l k b L i)
      have HM := Lib.hid hm0
      clear hm0
      cases hbit : b.testBit i with
      | true =>
        rw [hbit] at hsh HS
        by_cases hmL : m < L
        · have hmI : (m : Int) < (L : Int) := by omega
          obtain ⟨a, ha0⟩ : ∃ a, a = m / 8 := ⟨_, rfl⟩
          obtain ⟨e, he0⟩ : ∃ e, e = m % 8 := ⟨_, rfl⟩
          have ha : (m : Int) / 8 = (a : Int) := by omega
          have he : (m : Int) % 8 = (e : Int) := by omega
          have he8 : e < 8 := by omega
          have hax : (a : Int) < (x.size : Int) := by have := HL.out; omega
          have hal : a < (bst l k b L i).1.length := by rw [HBL.out, HLen.out]; omega
          have hcell := H.out.1.cell a hal
          have hfr := H.out.1.free a hal
          obtain ⟨y, hy⟩ : ∃ y, y = (bst l k b L i).1.getD a 0 := ⟨_, rfl⟩
          rw [← hy] at hcell
          have HY := Lib.hid hy
          have HA := Lib.hid (And.intro ha0 he0)
          clear hy ha0 he0 hal
          go_wp2_with fail
          go_region
          go_wp2_with fail
          have HF : Hid (fl (bst l k b L i).1 m = (bst l k b L i).1.set a (y ^^^ bit8 e)) := Lib.hid (by unfold fl; rw [← HA.out.1, ← HA.out.2, ← HY.out])
          go_roundw
          case rel =>
            refine ⟨i + 1, by omega, by go_num, by rw [HS.out, if_pos ⟨trivial, hmL⟩], Lib.hid ?_⟩
            rw [HS.out, if_pos ⟨trivial, hmL⟩, HF.out, xor_u8]
            have hal : a < (bst l k b L i).1.length := by rw [HBL.out, HLen.out]; omega
            exact ⟨H.out.1.put a hal _, H.out.2.1, (H.out.2.2.1.setCell H.out.2.1 _).drew, H.out.2.2.2.1.below ((Below.refl g wr).setCell (Nat.le_refl _) _).drew H.out.2.2.2.2, H.out.2.2.2.2⟩
          case measure => simp [intOf]; omega
        · have hmI : ¬ (m : Int) < (L : Int) := by omega
          go_wp2_with fail
          go_roundw
          case rel =>
            refine ⟨i + 1, by omega, by go_num, by rw [HS.out, if_neg (fun h => hmL h.2)], Lib.hid ?_⟩
            rw [HS.out, if_neg (fun h => hmL h.2)]
            exact H.out
          case measure => simp [intOf]; omega
      | false =>
        rw [hbit] at hsh HS
        go_wp2_with fail
        go_roundw
        case rel =>
          refine ⟨i + 1, by omega, by go_num, by rw [HS.out, if_neg (fun h => by cases h.1)], Lib.hid ?_⟩
          rw [HS.out, if_neg (fun h => by cases h.1)]
          exact H.out
        case measure => simp [intOf]; omega
    · obtain rfl : i = 32 := by omega
      have HBL := bst_length l k b L 32
      have HT := H.out.1.text q x.size (by rw [HBL, HLen.out])
      clear HBL
      have HG := Lib.hid H.out.2.2.2.1
      have HB := Lib.hid H.out.2.2.1
      clear H
      generalize hu : bst l k b L 32 = u at *
      obtain ⟨ql, t⟩ := u
      simp only at HT H4 H5
      cases t with
      | true =>
        obtain ⟨why, place, hw, H6⟩ := H4.out rfl
        have H6 := Lib.hid H6
        clear H4 H5 hu
        generalize str ql = Q at *
        go_wp2_with (first
          | (go_at_call 16; (with_reducible refine (H6.out _).mono ?_); rintro e w' ⟨rfl, hb⟩; have HB := Lib.hid (HB.out.trans (hb.mono HB.out.size)); have HG := Lib.hid (HG.out.out hb); clear hb)
          | (go_at_call 18; (with_reducible refine (awake_any _ HG.out).mono ?_); rintro e w' ⟨rfl, hb⟩; have HB := Lib.hid (HB.out.trans (hb.mono HB.out.size)); have HG := Lib.hid (HG.out.out hb); clear hb)
          | (go_at_call 14; (with_reducible refine (H1.out _).mono ?_); rintro e w' ⟨rfl, hb⟩; have HB := Lib.hid (HB.out.trans (hb.mono HB.out.size)); have HG := Lib.hid (HG.out.out hb); clear hb)
          | fail)
        go_ret
        exact ⟨rfl, HB.out⟩
      | false =>
        have H6 := Lib.hid (H5.out rfl)
        clear H4 H5 hu
        generalize str ql = Q at *
        go_wp2_with (first
          | (go_at_call 16; (with_reducible refine (H6.out _).mono ?_); rintro e w' ⟨rfl, hb⟩; have HB := Lib.hid (HB.out.trans (hb.mono HB.out.size)); have HG := Lib.hid (HG.out.out hb); clear hb)
          | (go_at_call 18; (with_reducible refine (awake_any _ HG.out).mono ?_); rintro e w' ⟨rfl, hb⟩; have HB := Lib.hid (HB.out.trans (hb.mono HB.out.size)); have HG := Lib.hid (HG.out.out hb); clear hb)
          | (go_at_call 14; (with_reducible refine (H1.out _).mono ?_); rintro e w' ⟨rfl, hb⟩; have HB := Lib.hid (HB.out.trans (hb.mono HB.out.size)); have HG := Lib.hid (HG.out.out hb); clear hb)
          | fail)
        go_ret
        exact ⟨rfl, HB.out⟩
set_option maxRecDepth 100000 in
set_option maxHeartbeats 4000000 in
theorem bursts_out (A S x : ByteArray) (k : Int) (L : Nat) (b : Nat) (w : World) (hg : Gl w) (hb : b < 4294967296) (hL : L = 8 * x.size) (hk : k < 0 ∨ (L : Int) ≤ k) (hx : x.size ≤ 510)
    (H1 : Hid (∀ V, Calls Tryd.prog 14 #[.string A, .int .i64 500] V fun e w' => e = .returned (.string S) ∧ Below V.heap.size V w'))
    (H3 : Hid (∀ V, Calls Tryd.prog 15 #[.string S] V fun e w' => e = .returned (.tuple #[.string x, .nilIface]) ∧ Below V.heap.size V w')) :
    Calls Tryd.prog 4 #[.string A, .int .i64 k, .int .u32 (b : Int)] w (RetT w) := by
  have HG := Lib.hid hg
  have HB := Lib.hid (Below.refl w.heap.size w)
  have hL8 : 8 * (x.size : Int) = (L : Int) := by omega
  have hLl : L ≤ 4080 := by omega
  clear hg hL
  rcases hk with hk | hk
  all_goals
    go_enter Tryd.func4, Tryd.ntmps4
    go_wp2_with (first
      | (go_at_call 14; (with_reducible refine (H1.out _).mono ?_); rintro e w' ⟨rfl, hb⟩; have HB := Lib.hid (HB.out.trans (hb.mono HB.out.size)); have HG := Lib.hid (HG.out.out hb); clear hb)
      | (go_at_call 15; (with_reducible refine (H3.out _).mono ?_); rintro e w' ⟨rfl, hb⟩; have HB := Lib.hid (HB.out.trans (hb.mono HB.out.size)); have HG := Lib.hid (HG.out.out hb); clear hb)
      | (go_at_call 18; (with_reducible refine (awake_any _ HG.out).mono ?_); rintro e w' ⟨rfl, hb⟩; have HB := Lib.hid (HB.out.trans (hb.mono HB.out.size)); clear hb)
      | fail)
    go_ret
    exact ⟨rfl, HB.out⟩
theorem bursts_any (A : ByteArray) (k c : Int) (w : World) (hg : Gl w) (hc : 0 ≤ c ∧ c < 4294967296) : Calls Tryd.prog 4 #[.string A, .int .i64 k, .int .u32 c] w (RetT w) := by
  obtain ⟨b, rfl⟩ := Int.eq_ofNat_of_zero_le hc.1
  obtain ⟨a, ha⟩ : ∃ a, a = A.data.toList.take 500 := ⟨_, rfl⟩
  have hal : a.length ≤ 500 := by rw [ha, List.length_take]; omega
  have H1 : Hid (∀ V, Calls Tryd.prog 14 #[.string A, .int .i64 500] V fun e w' => e = .returned (.string (str a)) ∧ Below V.heap.size V w') := Lib.hid (fun V => by rw [ha]; exact cut_any A 500 (by omega) V)
  have H3 : Hid (∀ V, Calls Tryd.prog 15 #[.string (str a)] V fun e w' => e = .returned (.tuple #[.string (str (packL a)), .nilIface]) ∧ Below V.heap.size V w') := Lib.hid (fun V => pack_any a V (by omega))
  have hxs : (str (packL a)).size = (packL a).length := str_size _
  have hx : (str (packL a)).size ≤ 510 := by rw [hxs, packL_length]; omega
  by_cases hk : k < 0 ∨ ((8 * (str (packL a)).size : Nat) : Int) ≤ k
  · exact bursts_out A _ _ k _ b w hg (by omega) rfl hk hx H1 H3
  · obtain ⟨n, rfl⟩ := Int.eq_ofNat_of_zero_le (show 0 ≤ k by omega)
    obtain ⟨L, hL⟩ : ∃ L, L = 8 * (str (packL a)).size := ⟨_, rfl⟩
    have hL2 : L = 8 * (packL a).length := by rw [hL, hxs]
    obtain ⟨f1, f2, f3⟩ := bst_facts (packL a) n b L hL2 32
    have hlen := bst_length (packL a) n b L 32
    have hql : (bst (packL a) n b L 32).1.length ≤ 140737488351232 := by rw [hlen, packL_length]; omega
    refine bursts_in A _ _ (packL a) n L b w hg (by omega) hL (by omega) hx (str_list _) H1 H3 (Lib.hid fun ht => ?_) (Lib.hid fun ht V => ?_)
    · obtain ⟨j, hj⟩ := f3 ht
      have hw : (unpackL (bst (packL a) n b L 32).1).2.1 ≠ 0 := fun h => hj (burst_told a _ n hlen f1 h j)
      refine ⟨_, (unpackL (bst (packL a) n b L 32).1).2.2, hw, fun V => ?_⟩
      have h := unpack_any (bst (packL a) n b L 32).1 V hql
      rw [unpackL_text _ hw] at h
      unfold errV fault at h
      rw [if_neg hw] at h
      exact h
    · rw [f2 ht]
      exact unpack_fact (packL a) a 0 (-1) V (by rw [packL_length]; omega) (unpack_pack a (by omega))
end Go.Proofs.YtjlfoiocceepjaaDoor
