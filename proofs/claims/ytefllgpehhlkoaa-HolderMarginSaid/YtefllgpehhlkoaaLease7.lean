/-
  The lease (layer 18): Count.
-/
import Derived.Test.YtefllgpehhlkoaaLease6
import Derived.Test.YtefllgpehhlkoaaMlaw
namespace Go.Proofs.Ytefllgpehhlkoaa
open Go.RowKit Go.Maps

/-- those that last among the ones that have come -/
def cntSeen (now : Int) (left : Lit → Bool) (es : Trips) : Nat := (es.filter fun p => !left (.int .i64 p.1) && decide (now < p.2.2.2)).length
theorem cntSeen_start (now : Int) (es : Trips) (left : Lit → Bool) (h : ∀ p ∈ es, left (.int .i64 p.1) = true) : cntSeen now left es = 0 := by
  unfold cntSeen
  rw [List.length_eq_zero_iff, List.filter_eq_nil_iff]
  intro p hp
  simp [h p hp]
theorem cntSeen_end (now : Int) (es : Trips) (left : Lit → Bool) (h : ∀ kl, left kl = false) : cntSeen now left es = (lasting es now).length := by
  unfold cntSeen lasting
  congr 1
  exact List.filter_congr (fun p _ => by simp [h])
theorem cntSeen_cons (now : Int) (left : Lit → Bool) (p : Int × Int × Int × Int) (r : Trips) : cntSeen now left (p :: r) = (if left (.int .i64 p.1) = false ∧ now < p.2.2.2 then 1 else 0) + cntSeen now left r := by
  unfold cntSeen
  rw [List.filter_cons]
  cases h1 : left (.int .i64 p.1) <;> by_cases h2 : now < p.2.2.2 <;> simp [h2] <;> omega
theorem cntSeen_other (now : Int) (left : Lit → Bool) (x : Int) : ∀ es : Trips, (∀ p ∈ es, p.1 ≠ x) → cntSeen now (fun z => left z && !z.sameKey (.int .i64 x)) es = cntSeen now left es
  | [], _ => rfl
  | p :: r, h => by
    rw [cntSeen_cons, cntSeen_cons, cntSeen_other now left x r (fun q hq => h q (List.mem_cons_of_mem _ hq))]
    have h1 : (Lit.int .i64 p.1).sameKey (.int .i64 x) = false := by rw [same_int]; simpa using h p (List.mem_cons_self ..)
    simp only [h1, Bool.not_false, Bool.and_true]
theorem cntSeen_step (now : Int) (left : Lit → Bool) (x : Int) (v : Int × Int × Int) (hl : left (.int .i64 x) = true) : ∀ es : Trips, es.Pairwise (fun p q => p.1 ≠ q.1) → mget es x = some v →
    cntSeen now (fun z => left z && !z.sameKey (.int .i64 x)) es = cntSeen now left es + (if now < v.2.2 then 1 else 0)
  | [], _, h => by cases h
  | p :: r, hp, h => by
    rw [List.pairwise_cons] at hp
    rw [mget_cons] at h
    rw [cntSeen_cons, cntSeen_cons]
    by_cases hx : p.1 = x
    · rw [if_pos hx] at h
      simp only [Option.some.injEq] at h
      rw [cntSeen_other now left x r (fun q hq => by rw [← hx]; exact (hp.1 q hq).symm), hx, hl, h]
      have h1 : (Lit.int .i64 x).sameKey (.int .i64 x) = true := by rw [same_int]; simp
      simp only [h1, Bool.not_true, Bool.and_false]
      by_cases h2 : now < v.2.2 <;> simp [h2] <;> omega
    · rw [if_neg hx] at h
      rw [cntSeen_step now left x v hl r hp.2 h]
      have h1 : (Lit.int .i64 p.1).sameKey (.int .i64 x) = false := by rw [same_int]; simpa using hx
      simp only [h1, Bool.not_false, Bool.and_true]
      omega
end Go.Proofs.Ytefllgpehhlkoaa
