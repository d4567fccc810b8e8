/-
  The document's Sum, walked: the division of a row of bits.
-/
import Derived.Test.YtjlfoiocceepjaaDoorUn
import Derived.RegionTactic
import Derived.BigRegion
namespace Go.Proofs.YtjlfoiocceepjaaDoor
open Go.RowKit Go.Proofs.YtjlfoiocceepjaaDoorW.PrintWords Go.Proofs.YtjlfoiocceepjaaDoorW.PrintLast Go.Proofs.YtjlfoiocceepjaaDoorW.PrintMore
set_option linter.unusedVariables false
set_option linter.unusedSimpArgs false

theorem infoBool : (Tryd.prog.info? 4).map (fun i => (i.zero, i.size, i.bytes)) = some (some (.bool false), 1, 1) := by kernel_rfl
/-- a row of bools -/
def Brow (w : World) (g N : Nat) (f : Nat → Bool) : Prop := ∃ cs : Array Value, Blk w g 4 cs ∧ ∀ j, j < N → cs[j]? = some (.bool (f j))
theorem Brow.cell {w : World} {g N : Nat} {f : Nat → Bool} (h : Brow w g N f) (j : Nat) (hj : j < N) : w.cell? ⟨g, j, none⟩ = some (.bool (f j)) := by
  obtain ⟨cs, hb, hc⟩ := h
  rw [hb.cell, hc j hj]
theorem Brow.free {w : World} {g N : Nat} {f : Nat → Bool} (h : Brow w g N f) (j : Nat) : w.frozen? ⟨g, j, none⟩ = false := by
  obtain ⟨cs, hb, hc⟩ := h
  exact hb.frozen j
theorem Brow.put {w : World} {g N : Nat} {f : Nat → Bool} (h : Brow w g N f) (i : Nat) (b : Bool) : Brow (w.setCell ⟨g, i, none⟩ (.bool b)) g N (fun j => if j = i then b else f j) := by
  obtain ⟨cs, hb, hc⟩ := h
  refine ⟨_, hb.set i _, fun j hj => ?_⟩
  rw [Array.getElem?_setIfInBounds]
  have hl : j < cs.size := (Array.getElem?_eq_some_iff.1 (hc j hj)).1
  by_cases e : i = j
  · subst e; simp [hl]
  · have e2 : ¬ j = i := fun h => e h.symm
    simp only [if_neg e, if_neg e2, hc j hj]
theorem Brow.congr {w : World} {g N : Nat} {f f' : Nat → Bool} (h : Brow w g N f) (he : ∀ j, j < N → f' j = f j) : Brow w g N f' := by
  obtain ⟨cs, hb, hc⟩ := h
  exact ⟨cs, hb, fun j hj => by rw [hc j hj, he j hj]⟩
theorem Brow.drew {w : World} {g N : Nat} {f : Nat → Bool} (h : Brow w g N f) : Brow w.drew g N f := h
theorem Brow.made (w : World) (N : Nat) : Brow (w.alloc (.cells (madeCells #[.bool false] N) 4)) w.heap.size N (fun _ => false) := by
  refine ⟨_, Blk.new _ _ _ _ rfl, fun j hj => ?_⟩
  simp [madeCells, hj, Nat.mod_one]

theorem fill_step (f : Nat → Bool) (i j : Nat) (x : Bool) (hx : x = f i) : (if j < i + 1 then f j else false) = (if j = i then x else (if j < i then f j else false)) := by
  by_cases e : j = i
  · subst e; rw [if_pos rfl, if_pos (by omega), hx]
  · rw [if_neg e]
    by_cases h : j < i
    · rw [if_pos h, if_pos (by omega)]
    · rw [if_neg h, if_neg (by omega)]
theorem flip_step (f : Nat → Bool) (i j : Nat) : (f j != decide (j < i + 1)) = (if j = i then !(f i != decide (i < i)) else (f j != decide (j < i))) := by
  by_cases e : j = i
  · subst e; simp
  · rw [if_neg e]
    have : decide (j < i + 1) = decide (j < i) := by apply decide_eq_decide.2; omega
    rw [this]
theorem round_step (r : Nat → Bool) (i k j : Nat) (x : Bool) (hx : x = (r (i + k) != pbit k)) : (if i ≤ j ∧ j < i + (k + 1) then r j != pbit (j - i) else r j) = (if j = i + k then x else (if i ≤ j ∧ j < i + k then r j != pbit (j - i) else r j)) := by
  by_cases e : j = i + k
  · subst e; rw [if_pos (by omega), if_pos rfl, hx]
    have : i + k - i = k := by omega
    rw [this]
  · rw [if_neg e]
    by_cases h : i ≤ j ∧ j < i + k
    · rw [if_pos h, if_pos (by omega)]
    · rw [if_neg h, if_neg (by omega)]
theorem odd_int (n q : Nat) : ((((n : Int) / 2 ^ q).tmod 2) == 1) = n.testBit q := by
  have h1 : ((n : Int) / 2 ^ q) = ((n / 2 ^ q : Nat) : Int) := by rw [Int.natCast_ediv, Int.natCast_pow]; rfl
  rw [h1, Nat.testBit_eq_decide_div_mod_eq]
  generalize n / 2 ^ q = m
  have h2 : (m : Int).tmod 2 = ((m % 2 : Nat) : Int) := rfl
  rw [h2, Bool.eq_iff_iff, beq_iff_eq, decide_eq_true_iff]
  omega
theorem odd_int2 (n : Int) (m q : Nat) (hn : n = (m : Int)) : (((n / 2 ^ q).tmod 2) == 1) = m.testBit q := by rw [hn, odd_int]
theorem bit_at (s : ByteArray) (a b : Nat) (hb : b < 8) (ha : a < s.size) : ((((s[a].toNat : Int) / 2 ^ b).tmod 2) == 1) = lbit s.data.toList (8 * a + b) := by
  unfold lbit
  have e1 : (8 * a + b) / 8 = a := by omega
  have e2 : (8 * a + b) % 8 = b := by omega
  rw [e1, e2]
  have e3 : s.data.toList.getD a 0 = s[a] := by
    rw [List.getD_eq_getElem?_getD, Array.getElem?_toList, Array.getElem?_eq_getElem ha]; rfl
  rw [e3, odd_int]
  rfl
theorem poly_at (k : Nat) : (((4374732215 : Int) / 2 ^ (32 - k)).tmod 2 == 1) = pbit k := by
  rw [odd_int2 4374732215 4374732215 _ rfl, Nat.testBit_eq_decide_div_mod_eq]
  unfold pbit
  rw [Nat.shiftRight_eq_div_pow]
  rfl
theorem rsum_lt (r : Nat → Bool) (n : Nat) : ∀ m, rsum r n m < 2 ^ m
  | 0 => Nat.one_pos
  | m + 1 => by
    have h := rsum_lt r n m
    have e : rsum r n (m + 1) = rsum r n m * 2 + (if r (n + (31 - m)) then 0 else 1) := rfl
    rw [e, Nat.pow_succ]
    by_cases hr : r (n + (31 - m)) = true
    · rw [if_pos hr]; omega
    · rw [if_neg hr]; omega
theorem round_yes (l : List UInt8) (i j : Nat) (h : rrow l i i = true) : rrow l (i + 1) j = (if i ≤ j ∧ j < i + 33 then rrow l i j != pbit (j - i) else rrow l i j) := by
  show rround (rrow l i) i j = _
  unfold rround
  by_cases hj : i ≤ j ∧ j < i + 33
  · rw [if_pos hj, if_pos ⟨h, hj⟩]
  · rw [if_neg hj, if_neg (fun h2 => hj h2.2)]
theorem round_no (l : List UInt8) (i j : Nat) (h : rrow l i i = false) : rrow l (i + 1) j = rrow l i j := by
  show rround (rrow l i) i j = _
  unfold rround
  rw [if_neg (by rw [h]; simp)]
set_option maxRecDepth 100000 in
set_option maxHeartbeats 2000000 in
theorem rsum_any (s : ByteArray) (w : World) (hs : s.size ≤ 100000) :
    Calls Tryd.prog 21 #[.string s] w fun e w' => e = .returned (u32 (csum s.data.toList)) ∧ Below w.heap.size w w' := by
  obtain ⟨M, hM0⟩ : ∃ M, M = 8 * s.size := ⟨_, rfl⟩
  obtain ⟨N, hN0⟩ : ∃ N, N = M + 32 := ⟨_, rfl⟩
  have hM : 8 * (s.size : Int) = (M : Int) := by omega
  have hN : (M : Int) + 32 = (N : Int) := by omega
  have hMl : M ≤ 800000 := by omega
  have hNl : N ≤ 800032 := by omega
  have hMN : M < N := by omega
  obtain ⟨i0, hi, hzz⟩ := Option.map_eq_some_iff.1 infoBool
  simp only [Prod.mk.injEq] at hzz
  obtain ⟨hz0, hz1, hz2⟩ := hzz
  have hmk := run_make (P := Tryd.prog) w 74 4 i0 (.bool false) Tryd.underlying74 hi hz0 .i64 .i64 (N : Int) (N : Int) (by omega) (by omega) (by rw [hz2]; omega) (by omega)
  simp only [Int.toNat_natCast] at hmk
  rw [hz1] at hmk
  simp only [Value.cells, Nat.mul_one] at hmk
  have HB := Lib.hid (Brow.made w N)
  have HA := Lib.hid ((Below.refl w.heap.size w).alloc (Nat.le_refl _) (.cells (madeCells #[.bool false] N) 4))
  have HM := Lib.hid (And.intro hM0 hN0)
  clear hM0 hN0 hi hz0 hz1 hz2
  go_enter Tryd.func21, Tryd.ntmps21
  go_wp2_with fail
  generalize hgg : w.heap.size = g at *
  have HGG := Lib.hid hgg
  clear hgg
  go_loopw [4] (fun iv wr => ∃ i : Nat, i ≤ M ∧ iv = .int .i64 (i : Int) ∧ Hid (Brow wr g N (fun j => if j < i then lbit s.data.toList j else false) ∧ Below g w wr)) (fun iv _ => M - (intOf iv).toNat)
  case atStart => exact ⟨0, Nat.zero_le _, rfl, Lib.hid ⟨HB.out.congr (fun j hj => by simp), HA.out⟩⟩
  case round =>
    obtain ⟨i, hi, rfl, H⟩ := hrel
    by_cases hlt : i < M
    · have hit : (i : Int) < (M : Int) := by omega
      obtain ⟨a, b, hb, ha, rfl⟩ : ∃ a b, b < 8 ∧ a < s.size ∧ i = 8 * a + b := ⟨i / 8, i % 8, by omega, by have := HM.out.1; omega, by omega⟩
      have hbit := bit_at s a b hb ha
      obtain ⟨i, hi0⟩ : ∃ i, i = 8 * a + b := ⟨_, rfl⟩
      rw [← hi0] at hbit hit hlt hi H ⊢
      have hq1 : (i : Int) / 8 = (a : Int) := by omega
      have hq2 : (i : Int) % 8 = (b : Int) := by omega
      clear hi0
      have HG := Lib.hid (And.intro H.out.1 H.out.2)
      have hfr := H.out.1.free i
      obtain ⟨y, hy⟩ : ∃ y, wr.cell? ⟨g, i, none⟩ = some y := ⟨_, H.out.1.cell i (by omega)⟩
      clear H
      go_wp2_with fail
      go_roundw
      case rel => exact ⟨i + 1, by omega, by go_num, Lib.hid ⟨(HG.out.1.put i _).congr (fun j hj => fill_step _ i j _ rfl), HG.out.2.setCell (Nat.le_refl _) _⟩⟩
      case measure => simp [intOf]; omega
    · obtain rfl : M = i := by omega
      have H2 : Hid (Brow wr g N (fun j => lbit s.data.toList j != decide (j < 0)) ∧ Below g w wr) := Lib.hid ⟨H.out.1.congr (fun j hj => by
        by_cases h : j < M
        · simp [h]
        · have := lbit_out s.data.toList j (by have := HM.out.1; simp; omega)
          simp [h, this]), H.out.2⟩
      clear H HA HB
      go_wp2_with fail
      go_loopw [5] (fun iv wr => ∃ j : Nat, j ≤ 32 ∧ iv = .int .i64 (j : Int) ∧ Hid (Brow wr g N (fun x => lbit s.data.toList x != decide (x < j)) ∧ Below g w wr)) (fun iv _ => 32 - (intOf iv).toNat)
      case atStart => exact ⟨0, by omega, rfl, H2⟩
      case round =>
        clear H2
        obtain ⟨j, hj, rfl, H⟩ := hrel
        by_cases hlt : j < 32
        · have hcell := H.out.1.cell j (by omega)
          have hfr := H.out.1.free j
          have hjN : (j : Int) < (N : Int) := by omega
          obtain ⟨x, hx⟩ : ∃ x, x = (lbit s.data.toList j != decide (j < j)) := ⟨_, rfl⟩
          rw [← hx] at hcell
          have HX := Lib.hid hx
          clear hx
          go_wp2_with fail
          go_roundw
          case rel => exact ⟨j + 1, by omega, by go_num, Lib.hid ⟨(H.out.1.put j _).congr (fun y hy => by rw [flip_step _ j y, ← HX.out]), H.out.2.setCell (Nat.le_refl _) _⟩⟩
          case measure => simp [intOf]; omega
        · obtain rfl : j = 32 := by omega
          have H2 : Hid (Brow wr g N (rrow s.data.toList 0) ∧ Below g w wr) := H
          clear H
          go_wp2_with fail
          go_loopw [7] (fun iv wr => ∃ i : Nat, i ≤ M ∧ iv = .int .i64 (i : Int) ∧ Hid (Brow wr g N (rrow s.data.toList i) ∧ Below g w wr)) (fun iv _ => M - (intOf iv).toNat)
          case atStart => exact ⟨0, by omega, rfl, H2⟩
          case round =>
            clear H2
            obtain ⟨i, hi, rfl, H⟩ := hrel
            by_cases hlt : i < M
            · have hcell := H.out.1.cell i (by omega)
              have hiN : (i : Int) < (N : Int) := by omega
              have hi32 : (i : Int) + 32 < (N : Int) := by omega
              obtain ⟨x, hx⟩ : ∃ x, x = rrow s.data.toList i i := ⟨_, rfl⟩
              rw [← hx] at hcell
              have HX := Lib.hid hx
              clear hx
              cases x with
              | true =>
                obtain ⟨wo, rfl⟩ : ∃ wo : World, wo = wr := ⟨_, rfl⟩
                go_wp2_with fail
                go_loopw [8] (fun kv wr => ∃ k : Nat, k ≤ 33 ∧ kv = .int .i64 (k : Int) ∧ Hid (Brow wr g N (fun j => if i ≤ j ∧ j < i + k then rrow s.data.toList i j != pbit (j - i) else rrow s.data.toList i j) ∧ Below g w wr)) (fun kv _ => 33 - (intOf kv).toNat)
                case atStart => exact ⟨0, by omega, rfl, Lib.hid ⟨H.out.1.congr (fun j hj => by rw [if_neg (by omega)]), H.out.2⟩⟩
                case round =>
                  clear H hcell
                  obtain ⟨k, hk, rfl, H⟩ := hrel
                  by_cases hlk : k < 33
                  · obtain ⟨m, hm0⟩ : ∃ m, m = i + k := ⟨_, rfl⟩
                    have hm : (i : Int) + (k : Int) = (m : Int) := by omega
                    have hmN : (m : Int) < (N : Int) := by omega
                    obtain ⟨q, hq0⟩ : ∃ q, q = 32 - k := ⟨_, rfl⟩
                    have hq : (32 : Int) - (k : Int) = (q : Int) := by omega
                    have hq32 : q ≤ 32 := by omega
                    have hp := poly_at k
                    rw [← hq0] at hp
                    have hcell := H.out.1.cell m (by omega)
                    have hfr := H.out.1.free m
                    obtain ⟨x, hx⟩ : ∃ x, x = rrow s.data.toList i m := ⟨_, rfl⟩
                    rw [show (if i ≤ m ∧ m < i + k then rrow s.data.toList i m != pbit (m - i) else rrow s.data.toList i m) = x from by rw [if_neg (by omega), hx]] at hcell
                    have HX2 := Lib.hid hx
                    have HM2 := Lib.hid (And.intro hm0 hq0)
                    clear hx hm0 hq0 
                    go_wp2_with fail
                    go_region
                    go_wp2_with fail
                    go_roundw
                    case rel => exact ⟨k + 1, by omega, by go_num, Lib.hid ⟨(H.out.1.put m _).congr (fun j hj => by rw [HM2.out.1]; exact round_step _ i k j _ (by rw [← HM2.out.1, ← HX2.out]; rfl)), (H.out.2.setCell (Nat.le_refl _) _).drew⟩⟩
                    case measure => simp [intOf]; omega
                  · obtain rfl : k = 33 := by omega
                    go_wp2_with fail
                    go_roundw
                    case rel => exact ⟨i + 1, by omega, by go_num, Lib.hid ⟨H.out.1.congr (fun j hj => round_yes _ i j HX.out.symm), H.out.2⟩⟩
                    case measure => simp [intOf]; omega
              | false =>
                go_wp2_with fail
                go_roundw
                case rel => exact ⟨i + 1, by omega, by go_num, Lib.hid ⟨H.out.1.congr (fun j hj => round_no _ i j HX.out.symm), H.out.2⟩⟩
                case measure => simp [intOf]; omega
            · obtain rfl : M = i := by omega
              have hi32 : ¬ (M : Int) + 32 < (N : Int) := by omega
              have HR : Hid (rsum (rrow s.data.toList M) M 32 = (csum s.data.toList).toNat) := Lib.hid (by
                have h := refsum_eq s.data.toList
                unfold refsum at h
                have e : 8 * s.data.toList.length = M := by rw [HM.out.1]; simp
                rw [e] at h; exact h)
              generalize rrow s.data.toList M = r at *
              go_wp2_with fail
              go_loop [9, 10] (fun cv kv => ∃ m : Nat, m ≤ 32 ∧ kv = .int .i64 (31 - (m : Int)) ∧ cv = .int .u32 (rsum r M m : Int)) (fun _ kv => (intOf kv + 1).toNat)
              case atStart => exact ⟨0, by omega, by go_num, rfl⟩
              case round =>
                obtain ⟨m, hm, rfl, rfl⟩ := hrel
                by_cases hlt : m < 32
                · obtain ⟨q, hq0⟩ : ∃ q, q = 31 - m := ⟨_, rfl⟩
                  have hq : (31 : Int) - (m : Int) = (q : Int) := by omega
                  obtain ⟨z, hz0⟩ : ∃ z, z = M + q := ⟨_, rfl⟩
                  have hz : (M : Int) + (q : Int) = (z : Int) := by omega
                  have hzN : (z : Int) < (N : Int) := by omega
                  have hcell := H.out.1.cell z (by omega)
                  have HS : Hid (rsum r M (m + 1) = rsum r M m * 2 + (if r z then 0 else 1)) := Lib.hid (by rw [hz0, hq0]; rfl)
                  have hc1 := rsum_lt r M m
                  have hc2 : 2 ^ m ≤ 2 ^ 31 := Nat.pow_le_pow_right (by omega) (by omega)
                  have hc : rsum r M m < 2147483648 := by have : 2 ^ 31 = 2147483648 := rfl; omega
                  clear hc1 hc2 hz0 hq0
                  generalize rsum r M m = c at *
                  rw [hq]
                  cases hx : r z with
                  | true =>
                    rw [hx] at hcell
                    go_wp2_with fail
                    go_round
                    case rel => exact ⟨m + 1, by omega, by go_num, by rw [HS.out, hx, Nat.mul_comm c 2]; rfl⟩
                    case measure => simp [intOf] <;> omega
                  | false =>
                    rw [hx] at hcell
                    go_wp2_with fail
                    go_round
                    case rel => exact ⟨m + 1, by omega, by go_num, by rw [HS.out, hx]; go_num⟩
                    case measure => simp [intOf] <;> omega
                · obtain rfl : m = 32 := by omega
                  rw [HR.out]
                  go_wp2_with fail
                  go_ret
                  exact ⟨rfl, by rw [HGG.out]; exact H.out.2⟩
end Go.Proofs.YtjlfoiocceepjaaDoor
