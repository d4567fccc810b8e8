/-
  Plain: how the document's lists put an element in its place.
-/
import Derived.Test.YtefllgpehhlkoaaMlaw
namespace Go.Proofs.Ytefllgpehhlkoaa

section
variable {α : Type}
theorem mins_none (x : Int × α) : ∀ (m r : List (Int × α)), (∀ y ∈ m, ¬ x.1 < y.1) → mins x (m ++ r) = m ++ mins x r
  | [], r, _ => rfl
  | y :: m, r, h => by
    show (if x.1 < y.1 then x :: y :: (m ++ r) else y :: mins x (m ++ r)) = _
    rw [if_neg (h y (List.mem_cons_self ..)), mins_none x m r (fun z hz => h z (List.mem_cons_of_mem _ hz))]
    rfl
theorem mins_any (x : Int × α) : ∀ (m r : List (Int × α)), (∃ y ∈ m, x.1 < y.1) → mins x (m ++ r) = mins x m ++ r
  | [], r, h => by obtain ⟨y, hy, _⟩ := h; cases hy
  | y :: m, r, h => by
    show (if x.1 < y.1 then x :: y :: (m ++ r) else y :: mins x (m ++ r)) = (if x.1 < y.1 then x :: y :: m else y :: mins x m) ++ r
    by_cases hx : x.1 < y.1
    · rw [if_pos hx, if_pos hx]; rfl
    · rw [if_neg hx, if_neg hx]
      have h' : ∃ z ∈ m, x.1 < z.1 := by
        obtain ⟨z, hz, hzz⟩ := h
        rcases List.mem_cons.1 hz with rfl | hz
        · exact absurd hzz hx
        · exact ⟨z, hz, hzz⟩
      rw [mins_any x m r h']
      rfl
theorem mdel_app (l r : List (Int × α)) (k : Int) : mdel (l ++ r) k = mdel l k ++ mdel r k := by simp [mdel]
theorem mdel_one (y : Int × α) (k : Int) : mdel [y] k = if y.1 = k then [] else [y] := by
  unfold mdel
  by_cases h : y.1 = k <;> simp [h]

/-- has an element with a greater key come? -/
def past (k : Int) (l : List (Int × α)) : Bool := (mdel l k).any fun y => decide (k < y.1)
/-- what has been gathered so far -/
def sofar (k : Int) (x : α) (l : List (Int × α)) : List (Int × α) := if past k l then mput l k x else mdel l k
theorem past_iff (k : Int) (l : List (Int × α)) : past k l = true ↔ ∃ y ∈ mdel l k, k < y.1 := by simp [past]
theorem sofar_nil (k : Int) (x : α) : sofar k x [] = [] := rfl
theorem past_nil (k : Int) : past k ([] : List (Int × α)) = false := rfl
theorem sofar_same (k : Int) (x : α) (l : List (Int × α)) (y : Int × α) (h : y.1 = k) : sofar k x (l ++ [y]) = sofar k x l ∧ past k (l ++ [y]) = past k l := by
  have e : mdel (l ++ [y]) k = mdel l k := by rw [mdel_app, mdel_one, if_pos h, List.append_nil]
  unfold sofar past mput
  rw [e]
  exact ⟨rfl, rfl⟩
theorem sofar_next (k : Int) (x : α) (l : List (Int × α)) (y : Int × α) (h : y.1 ≠ k) :
    sofar k x (l ++ [y]) = (if past k l = false ∧ k < y.1 then sofar k x l ++ [(k, x)] else sofar k x l) ++ [y] ∧ past k (l ++ [y]) = (past k l || decide (k < y.1)) := by
  have e : mdel (l ++ [y]) k = mdel l k ++ [y] := by rw [mdel_app, mdel_one, if_neg h]
  have hp : past k (l ++ [y]) = (past k l || decide (k < y.1)) := by
    unfold past
    rw [e, List.any_append]
    simp
  refine ⟨?_, hp⟩
  unfold sofar
  rw [hp]
  cases hpl : past k l with
  | true =>
    have hex := (past_iff k l).1 hpl
    simp only [Bool.true_or, if_true]
    rw [if_neg (by simp)]
    unfold mput
    rw [e, mins_any (k, x) (mdel l k) [y] hex]
  | false =>
    have hno : ∀ z ∈ mdel l k, ¬ (k, x).1 < z.1 := fun z hz hlt => by
      have := (past_iff k l).2 ⟨z, hz, hlt⟩
      rw [hpl] at this
      cases this
    simp only [Bool.false_or, Bool.false_eq_true, if_false]
    by_cases hk : k < y.1
    · rw [if_pos (by simpa using hk), if_pos ⟨trivial, hk⟩]
      unfold mput
      rw [e, mins_none (k, x) (mdel l k) [y] hno]
      simp [mins, hk]
    · rw [if_neg (by simpa using hk), if_neg (by simp [hk]), e]
theorem sofar_end (k : Int) (x : α) (l : List (Int × α)) : mput l k x = if past k l = false then sofar k x l ++ [(k, x)] else sofar k x l := by
  unfold sofar
  cases hpl : past k l with
  | true => simp
  | false =>
    have hno : ∀ z ∈ mdel l k, ¬ (k, x).1 < z.1 := fun z hz hlt => by
      have := (past_iff k l).2 ⟨z, hz, hlt⟩
      rw [hpl] at this
      cases this
    simp only [if_true, Bool.false_eq_true, if_false]
    unfold mput
    have := mins_none (k, x) (mdel l k) [] hno
    rw [List.append_nil] at this
    rw [this]
    rfl
theorem sofar_len (k : Int) (x : α) (l : List (Int × α)) : (sofar k x l).length ≤ l.length + 1 := by
  unfold sofar
  split
  · exact mput_len l k x
  · have := mdel_len l k
    omega
end
end Go.Proofs.Ytefllgpehhlkoaa
