/-
  The reference's own counts (tillerref17): walks, and what they come to.
-/
import Derived.Test.YtefllgpehhlkoaaClk3
namespace Go.Proofs.Ytefllgpehhlkoaa
open Go.RowKit

def cnt (l : List Int) (i : Int) : Int := (l.filter (· == i)).length
theorem cnt_nil (i : Int) : cnt [] i = 0 := rfl
theorem cnt_snoc (l : List Int) (t i : Int) : cnt (l ++ [t]) i = cnt l i + if t = i then 1 else 0 := by
  unfold cnt
  rw [List.filter_append, List.length_append]
  by_cases h : t = i <;> simp [h]
theorem cnt_le (l : List Int) (i : Int) : 0 ≤ cnt l i ∧ cnt l i ≤ l.length := by
  unfold cnt; have := List.length_filter_le (fun t : Int => t == i) l; omega

set_option maxHeartbeats 400000 in
theorem count_any (w : World) (top cap : Nat) (a : Option Addr) (l : List Int) (h : Sl w top a cap l) (i : Int) (hl : l.length ≤ 1000) :
    Calls Try.prog 22 #[.slice a l.length cap, .int .i64 i] w fun e w' => e = .returned (.int .i64 (cnt l i)) ∧ w = w' := by
  have HR := Lib.hid h.row
  have hl' : (l.length : Int) ≤ 1000 := by omega
  clear h
  go_enter Try.func22, Try.ntmps22
  go_wp2
  go_loop [5, 7, 10] (fun n _ kv => ∃ k : Nat, k ≤ l.length ∧ kv = .int .i64 k ∧ n = .int .i64 (cnt (l.take k) i)) (fun _ _ kv => l.length - (intOf kv).toNat)
  case atStart => exact ⟨0, Nat.zero_le _, rfl, rfl⟩
  case round =>
    obtain ⟨k, hk, rfl, rfl⟩ := hrel
    by_cases hlt : k < l.length
    · obtain ⟨b, o, rfl, hb, hcell⟩ := HR.out.addr (by omega)
      have hc := hcell k hlt
      have hd := cnt_le (l.take k) i
      have hd2 : (l.take k).length ≤ k := List.length_take_le _ _
      have HB := Lib.hid (show cnt (l.take (k + 1)) i = cnt (l.take k) i + if nth l k = i then 1 else 0 by rw [take_nth hlt, cnt_snoc])
      clear hcell
      by_cases he : nth l k = i
      · have he' : (nth l k == i) = true := by simp [he]
        have HE := Lib.hid he
        clear he
        go_wp2
        go_round
        case rel => exact ⟨k + 1, by omega, by go_num, by rw [HB.out, if_pos HE.out]⟩
        case measure => simp [intOf]; omega
      · have he' : (nth l k == i) = false := by simp [he]
        have HE := Lib.hid he
        clear he
        go_wp2
        go_round
        case rel => exact ⟨k + 1, by omega, by go_num, by rw [HB.out, if_neg HE.out]; go_num⟩
        case measure => simp [intOf]; omega
    · have HB : Hid (l.take k = l) := List.take_of_length_le (by omega)
      go_wp2
      go_ret
      exact ⟨ret_int (by rw [HB.out]), rfl⟩

/-! ### ref.Drift -/
/-- one tick of a stretch: how far ahead, the worst so far -/
def rstep (i : Int) (s : Int × Int) (t : Int) : Int × Int :=
  let a1 := if t = i then s.1 + 1 else s.1
  let a2 := if t = 0 then a1 - 1 else a1
  let w1 := if s.2 < a2 then a2 else s.2
  (a2, if w1 < -a2 then -a2 else w1)
def rin (i : Int) (l : List Int) (s : Int × Int) : Int × Int := l.foldl (rstep i) s
/-- behind the stretches from the first k places -/
def rout (i : Int) (l : List Int) : Nat → Int
  | 0 => 0
  | k + 1 => (rin i (l.drop k) (0, rout i l k)).2
theorem rin_snoc (i : Int) (l : List Int) (t : Int) (s : Int × Int) : rin i (l ++ [t]) s = rstep i (rin i l s) t := by simp [rin, List.foldl_append]
theorem rstep_bd (i : Int) (s : Int × Int) (t : Int) (K M : Int) (h1 : -K ≤ s.1 ∧ s.1 ≤ K) (h2 : 0 ≤ s.2 ∧ s.2 ≤ M) (hK : K + 1 ≤ M) : -(K + 1) ≤ (rstep i s t).1 ∧ (rstep i s t).1 ≤ K + 1 ∧ 0 ≤ (rstep i s t).2 ∧ (rstep i s t).2 ≤ M := by
  unfold rstep
  simp only
  repeat' split
  all_goals omega
theorem rin_bd (i : Int) (M : Nat) : ∀ (l : List Int) (s : Int × Int) (K : Nat), -(K : Int) ≤ s.1 ∧ s.1 ≤ K → 0 ≤ s.2 ∧ s.2 ≤ M → K + l.length ≤ M →
    -((K + l.length : Nat) : Int) ≤ (rin i l s).1 ∧ (rin i l s).1 ≤ (K + l.length : Nat) ∧ 0 ≤ (rin i l s).2 ∧ (rin i l s).2 ≤ M := by
  intro l
  induction l with
  | nil => intro s K h1 h2 _; simp only [rin, List.foldl_nil, List.length_nil]; omega
  | cons t l ih =>
    intro s K h1 h2 hK
    simp only [List.length_cons] at hK ⊢
    have h3 := rstep_bd i s t K M h1 h2 (by omega)
    have := ih (rstep i s t) (K + 1) (by omega) (by omega) (by omega)
    simp only [rin, List.foldl_cons] at this ⊢
    rw [show K + (l.length + 1) = K + 1 + l.length by omega]
    exact this
theorem rout_bd (i : Int) (l : List Int) (k : Nat) : 0 ≤ rout i l k ∧ rout i l k ≤ l.length := by
  induction k with
  | zero => simp only [rout]; omega
  | succ k ih =>
    have := rin_bd i l.length (l.drop k) (0, rout i l k) 0 (by simp) ih (by simp)
    simp only [rout]
    omega

def InRel (i : Int) (l : List Int) (k : Nat) (av wv jv : Value) : Prop :=
  ∃ j : Nat, j ≤ l.length - k ∧ jv = .int .i64 j ∧ av = .int .i64 (rin i ((l.drop k).take j) (0, rout i l k)).1 ∧ wv = .int .i64 (rin i ((l.drop k).take j) (0, rout i l k)).2

set_option maxHeartbeats 1000000 in
theorem drift_ref (w : World) (top cap : Nat) (a : Option Addr) (l : List Int) (h : Sl w top a cap l) (i : Int) (hl : l.length ≤ 1000) :
    Calls Try.prog 20 #[.slice a l.length cap, .int .i64 i] w fun e w' => e = .returned (.int .i64 (rout i l l.length)) ∧ w = w' := by
  have HR := Lib.hid h.row
  have hle := h.le
  have hl' : (l.length : Int) ≤ 1000 := by omega
  clear h
  go_enter Try.func20, Try.ntmps20
  go_wp2
  go_loop [5, 6, 7, 9, 12] (fun wv _ _ _ kv => ∃ k : Nat, k ≤ l.length ∧ kv = .int .i64 k ∧ wv = .int .i64 (rout i l k)) (fun _ _ _ _ kv => l.length - (intOf kv).toNat)
  case atStart => exact ⟨0, Nat.zero_le _, rfl, rfl⟩
  case round =>
    obtain ⟨k, hk, rfl, rfl⟩ := hrel
    by_cases hlt : k < l.length
    · obtain ⟨b, o, rfl, hb, hcell⟩ := HR.out.addr (by omega)
      have hkc : k < cap := by omega
      have hkc' : k ≠ cap := by omega
      have HC := Lib.hid hcell
      clear hcell
      go_wp2
      have hkl : ((l.length - k : Nat) : Int) = (l.length : Int) - k := by omega
      have HK := Lib.hid hkl
      clear hkl
      go_loop [5, 7, 9, 19] (fun wv av _ jv => InRel i l k av wv jv) (fun _ _ _ jv => l.length - k - (intOf jv).toNat)
      case atStart => exact ⟨0, Nat.zero_le _, rfl, rfl, rfl⟩
      case round =>
        obtain ⟨j, hj, rfl, rfl, rfl⟩ := hrel
        have hdl : (l.drop k).length = l.length - k := by simp
        by_cases hlj : j < l.length - k
        · have hc : w.cell? ⟨b, o + k + j, none⟩ = some (.int .i64 (nth l (k + j))) := by
            have := HC.out (k + j) (by omega); rwa [← Nat.add_assoc] at this
          have hbd := rin_bd i l.length ((l.drop k).take j) (0, rout i l k) 0 (by simp) (rout_bd i l k) (by simp; omega)
          have hln : ((l.drop k).take j).length ≤ 1000 := by simp; omega
          have HB := Lib.hid (show rin i ((l.drop k).take (j + 1)) (0, rout i l k) = rstep i (rin i ((l.drop k).take j) (0, rout i l k)) (nth l (k + j)) by
            rw [take_nth (by omega), rin_snoc, nth_drop])
          have hb1 : -1000 ≤ (rin i ((l.drop k).take j) (0, rout i l k)).1 := by omega
          have hb2 : (rin i ((l.drop k).take j) (0, rout i l k)).1 ≤ 1000 := by omega
          have hb3 : 0 ≤ (rin i ((l.drop k).take j) (0, rout i l k)).2 := by omega
          have hb4 : (rin i ((l.drop k).take j) (0, rout i l k)).2 ≤ 1000 := by omega
          have hlj' : (j : Int) < ((l.length - k : Nat) : Int) := by omega
          clear hbd hln hdl
          generalize rin i ((l.drop k).take j) (0, rout i l k) = sj at *
          obtain ⟨a0, w0⟩ := sj
          generalize nth l (k + j) = t at *
          dsimp only at hb1 hb2 hb3 hb4
          by_cases h1 : t = i
          all_goals by_cases h2 : t = 0
          · have e1 : (t == i) = true := by simp [h1]
            have e2 : (t == 0) = true := by simp [h2]
            have H1 := Lib.hid h1
            have H2 := Lib.hid h2
            clear h1 h2
            go_wp2
            go_round
            case rel => exact ⟨j + 1, by omega, by go_num, by rw [HB.out]; simp only [rstep]; simp only [if_pos H1.out, if_pos H2.out, Int.add_sub_cancel], by rw [HB.out]; simp only [rstep]; simp only [if_pos H1.out, if_pos H2.out, Int.add_sub_cancel]⟩
            case measure => simp [intOf]; omega
          · have e1 : (t == i) = true := by simp [h1]
            have e2 : (t == 0) = false := by simp [h2]
            have H1 := Lib.hid h1
            have H2 := Lib.hid h2
            clear h1 h2
            go_wp2
            go_round
            case rel => exact ⟨j + 1, by omega, by go_num, by rw [HB.out]; simp only [rstep]; rw [if_pos H1.out, if_neg H2.out], by rw [HB.out]; simp only [rstep]; rw [if_pos H1.out, if_neg H2.out]⟩
            case measure => simp [intOf]; omega
          · have e1 : (t == i) = false := by simp [h1]
            have e2 : (t == 0) = true := by simp [h2]
            have H1 := Lib.hid h1
            have H2 := Lib.hid h2
            clear h1 h2
            go_wp2
            go_round
            case rel => exact ⟨j + 1, by omega, by go_num, by rw [HB.out]; simp only [rstep]; rw [if_neg H1.out, if_pos H2.out], by rw [HB.out]; simp only [rstep]; rw [if_neg H1.out, if_pos H2.out]⟩
            case measure => simp [intOf]; omega
          · have e1 : (t == i) = false := by simp [h1]
            have e2 : (t == 0) = false := by simp [h2]
            have H1 := Lib.hid h1
            have H2 := Lib.hid h2
            clear h1 h2
            go_wp2
            go_round
            case rel => exact ⟨j + 1, by omega, by go_num, by rw [HB.out]; simp only [rstep]; rw [if_neg H1.out, if_neg H2.out], by rw [HB.out]; simp only [rstep]; rw [if_neg H1.out, if_neg H2.out]⟩
            case measure => simp [intOf]; omega
        · obtain rfl : j = l.length - k := by omega
          have HB := Lib.hid (show (rin i ((l.drop k).take (l.length - k)) (0, rout i l k)).2 = rout i l (k + 1) by
            rw [List.take_of_length_le (by omega)]; rfl)
          clear hdl
          go_wp2
          go_round
          case rel => exact ⟨k + 1, by omega, by go_num, by rw [HB.out]⟩
          case measure => simp [intOf]; omega
    · obtain rfl : k = l.length := by omega
      go_wp2
      go_ret
      exact ⟨rfl, rfl⟩
end Go.Proofs.Ytefllgpehhlkoaa
