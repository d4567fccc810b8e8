/-
  Plain laws of the sorted lists.
-/
import Derived.Test.YtefllgpehhlkoaaMap
namespace Go.Proofs.Ytefllgpehhlkoaa

section
variable {α : Type}
theorem mget_nil (k : Int) : mget ([] : List (Int × α)) k = none := rfl
theorem mget_cons (p : Int × α) (r : List (Int × α)) (k : Int) : mget (p :: r) k = if p.1 = k then some p.2 else mget r k := by
  unfold mget
  rw [List.find?_cons]
  by_cases h : p.1 = k
  · simp [h]
  · rw [beq_eq_false_iff_ne.2 h, if_neg h]
theorem mget_del (es : List (Int × α)) (k j : Int) : mget (mdel es k) j = if k = j then none else mget es j := by
  induction es with
  | nil => simp [mdel, mget]
  | cons p r ih =>
    have hd : mdel (p :: r) k = if p.1 = k then mdel r k else p :: mdel r k := by
      unfold mdel
      rw [List.filter_cons]
      by_cases h : p.1 = k
      · simp [h]
      · rw [beq_eq_false_iff_ne.2 h, if_neg h]; rfl
    rw [hd]
    by_cases h : p.1 = k
    · rw [if_pos h, ih, mget_cons]
      by_cases hkj : k = j
      · rw [if_pos hkj, if_pos hkj]
      · rw [if_neg hkj, if_neg hkj, if_neg (by omega)]
    · rw [if_neg h, mget_cons, mget_cons, ih]
      by_cases hkj : k = j
      · rw [if_pos hkj, if_pos hkj, if_neg (by omega)]
      · rw [if_neg hkj, if_neg hkj]
theorem mget_ins (x : Int × α) (es : List (Int × α)) (hx : mget es x.1 = none) (j : Int) : mget (mins x es) j = if x.1 = j then some x.2 else mget es j := by
  induction es with
  | nil => simp only [mins, mget_cons]
  | cons p r ih =>
    have hp : p.1 ≠ x.1 := by
      intro e
      rw [mget_cons, if_pos e] at hx
      cases hx
    rw [mget_cons, if_neg hp] at hx
    simp only [mins]
    by_cases h : x.1 < p.1
    · rw [if_pos h, mget_cons]
    · rw [if_neg h, mget_cons, ih hx, mget_cons]
      by_cases h1 : p.1 = j
      · rw [if_pos h1, if_pos h1, if_neg (by omega)]
      · rw [if_neg h1, if_neg h1]
theorem mget_put (es : List (Int × α)) (k : Int) (x : α) (j : Int) : mget (mput es k x) j = if k = j then some x else mget es j := by
  unfold mput
  rw [mget_ins (k, x) (mdel es k) (by rw [mget_del, if_pos rfl]), mget_del]
  by_cases h : k = j
  · rw [if_pos h, if_pos h]
  · rw [if_neg h, if_neg h, if_neg h]
theorem mdel_len (es : List (Int × α)) (k : Int) : (mdel es k).length ≤ es.length := List.length_filter_le _ _
theorem mins_len (x : Int × α) (es : List (Int × α)) : (mins x es).length = es.length + 1 := by
  induction es with
  | nil => rfl
  | cons p r ih =>
    simp only [mins]
    by_cases h : x.1 < p.1
    · rw [if_pos h]; rfl
    · rw [if_neg h, List.length_cons, ih, List.length_cons]
theorem mput_len (es : List (Int × α)) (k : Int) (x : α) : (mput es k x).length ≤ es.length + 1 := by
  unfold mput
  rw [mins_len]
  have := mdel_len es k
  omega
end
end Go.Proofs.Ytefllgpehhlkoaa
