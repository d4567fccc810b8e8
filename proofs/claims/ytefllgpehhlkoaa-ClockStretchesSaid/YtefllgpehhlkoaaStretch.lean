/-
  Over any stretch a clock goes on by at most its drift more or fewer ticks than node 0's. No Go in sight.
-/
import Derived.Test.YtefllgpehhlkoaaPlain
namespace Go.Proofs.Ytefllgpehhlkoaa

def Ok (s : St) : Prop := ∀ j, s.L j ≤ s.N j - s.N 0 ∧ s.N j - s.N 0 ≤ s.H j
theorem Ok_zero : Ok St.zero := fun j => by simp [St.zero]
theorem Ok_tickAt (s : St) (i : Nat) : Ok (s.tickAt i) := by
  intro j
  have e1 : (s.tickAt i).L j = if (s.tickAt i).N j - (s.tickAt i).N 0 < s.L j then (s.tickAt i).N j - (s.tickAt i).N 0 else s.L j := rfl
  have e2 : (s.tickAt i).H j = if s.H j < (s.tickAt i).N j - (s.tickAt i).N 0 then (s.tickAt i).N j - (s.tickAt i).N 0 else s.H j := rfl
  rw [e1, e2]
  constructor <;> split <;> omega
theorem Ok_tick {s : St} (h : Ok s) (n : Nat) (t : Int) : Ok (s.tick n t) := by
  unfold St.tick; split
  · exact Ok_tickAt s _
  · exact h
theorem Ok_run (n : Nat) (l : List Int) : ∀ {s : St}, Ok s → Ok (s.run n l) := by
  induction l with
  | nil => intro s h; exact h
  | cons t l ih => intro s h; exact ih (Ok_tick h n t)
theorem tick_mono (n : Nat) (s : St) (t : Int) (j : Nat) : (s.tick n t).L j ≤ s.L j ∧ s.H j ≤ (s.tick n t).H j := by
  unfold St.tick; split
  · generalize t.toNat = i
    have e1 : (s.tickAt i).L j = if (s.tickAt i).N j - (s.tickAt i).N 0 < s.L j then (s.tickAt i).N j - (s.tickAt i).N 0 else s.L j := rfl
    have e2 : (s.tickAt i).H j = if s.H j < (s.tickAt i).N j - (s.tickAt i).N 0 then (s.tickAt i).N j - (s.tickAt i).N 0 else s.H j := rfl
    rw [e1, e2]
    constructor <;> split <;> omega
  · exact ⟨Int.le_refl _, Int.le_refl _⟩
theorem run_mono (n : Nat) (l : List Int) (j : Nat) : ∀ s : St, (s.run n l).L j ≤ s.L j ∧ s.H j ≤ (s.run n l).H j := by
  induction l with
  | nil => intro s; exact ⟨Int.le_refl _, Int.le_refl _⟩
  | cons t l ih =>
    intro s
    have h1 := tick_mono n s t j
    have h2 := ih (s.tick n t)
    simp only [St.run, List.foldl_cons] at h2 ⊢
    omega
/-- THE LAW. -/
theorem stretch (n : Nat) (l : List Int) (k i : Nat) :
    (St.play n (l.take k)).drift i ≤ (St.play n l).drift i ∧
    ((St.play n l).N i - (St.play n (l.take k)).N i) - ((St.play n l).N 0 - (St.play n (l.take k)).N 0) ≤ (St.play n l).drift i ∧
    ((St.play n l).N 0 - (St.play n (l.take k)).N 0) - ((St.play n l).N i - (St.play n (l.take k)).N i) ≤ (St.play n l).drift i := by
  have e : St.play n l = (St.play n (l.take k)).run n (l.drop k) := by
    unfold St.play; rw [← run_append, List.take_append_drop]
  have h1 : Ok (St.play n (l.take k)) := Ok_run n _ Ok_zero
  have h2 : Ok (St.play n l) := Ok_run n _ Ok_zero
  have h3 := run_mono n (l.drop k) i (St.play n (l.take k))
  rw [← e] at h3
  have a1 := h1 i
  have a2 := h2 i
  unfold St.drift
  omega
end Go.Proofs.Ytefllgpehhlkoaa
