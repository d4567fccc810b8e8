/-
  Clocks as plain functions: what node j's clock says, the least and the most that it was ahead of node 0's. No Go in sight.
-/
namespace Go.Proofs.Ytefllgpehhlkoaa

structure St where
  N : Nat → Int
  L : Nat → Int
  H : Nat → Int

def St.zero : St := ⟨fun _ => 0, fun _ => 0, fun _ => 0⟩
/-- one more at i -/
def bump (N : Nat → Int) (i : Nat) : Nat → Int := fun j => if j = i then N j + 1 else N j
def lesser (L N : Nat → Int) : Nat → Int := fun j => if N j - N 0 < L j then N j - N 0 else L j
def greater (H N : Nat → Int) : Nat → Int := fun j => if H j < N j - N 0 then N j - N 0 else H j
def St.tickAt (s : St) (i : Nat) : St := ⟨bump s.N i, lesser s.L (bump s.N i), greater s.H (bump s.N i)⟩
def St.tick (n : Nat) (s : St) (t : Int) : St := if 0 ≤ t ∧ t < n then s.tickAt t.toNat else s
def St.run (n : Nat) (s : St) (l : List Int) : St := l.foldl (St.tick n) s
def St.play (n : Nat) (l : List Int) : St := St.zero.run n l

/-- All numbers within K. -/
def St.Bd (K : Nat) (s : St) : Prop := (∀ j, 0 ≤ s.N j ∧ s.N j ≤ K) ∧ (∀ j, -(K : Int) ≤ s.L j ∧ s.L j ≤ 0) ∧ (∀ j, 0 ≤ s.H j ∧ s.H j ≤ K)

theorem Bd_zero : St.zero.Bd 0 := ⟨fun _ => by simp [St.zero], fun _ => by simp [St.zero], fun _ => by simp [St.zero]⟩
theorem Bd_mono {K K' : Nat} {s : St} (h : s.Bd K) (hK : K ≤ K') : s.Bd K' :=
  ⟨fun j => by have := h.1 j; omega, fun j => by have := h.2.1 j; omega, fun j => by have := h.2.2 j; omega⟩
theorem Bd_tickAt {K : Nat} {s : St} (h : s.Bd K) (i : Nat) : (s.tickAt i).Bd (K + 1) := by
  have hb : ∀ j, 0 ≤ bump s.N i j ∧ bump s.N i j ≤ (K + 1 : Nat) := fun j => by
    have := h.1 j; unfold bump; split <;> omega
  refine ⟨hb, fun j => ?_, fun j => ?_⟩
  · have h1 := h.2.1 j; have h2 := hb j; have h3 := hb 0
    simp only [St.tickAt, lesser]; split <;> omega
  · have h1 := h.2.2 j; have h2 := hb j; have h3 := hb 0
    simp only [St.tickAt, greater]; split <;> omega
theorem Bd_tick {K : Nat} {s : St} (h : s.Bd K) (n : Nat) (t : Int) : (s.tick n t).Bd (K + 1) := by
  unfold St.tick; split
  · exact Bd_tickAt h _
  · exact Bd_mono h (by omega)
theorem Bd_run (n : Nat) (l : List Int) : ∀ {K : Nat} {s : St}, s.Bd K → (s.run n l).Bd (K + l.length) := by
  induction l with
  | nil => intro K s h; exact h
  | cons t l ih => intro K s h; have := ih (Bd_tick h n t); simp only [St.run, List.foldl_cons, List.length_cons] at *; rw [show K + (l.length + 1) = K + 1 + l.length by omega]; exact this
theorem Bd_play (n : Nat) (l : List Int) : (St.play n l).Bd l.length := by
  have := Bd_run n l Bd_zero; rwa [Nat.zero_add] at this
theorem run_append (n : Nat) (s : St) (a b : List Int) : s.run n (a ++ b) = (s.run n a).run n b := by simp [St.run, List.foldl_append]
theorem run_snoc (n : Nat) (s : St) (a : List Int) (t : Int) : s.run n (a ++ [t]) = (s.run n a).tick n t := by simp [St.run, List.foldl_append]
/-- what a clock's drift is -/
def St.drift (s : St) (j : Nat) : Int := s.H j - s.L j
/-- the worst of the first k -/
def St.worst (s : St) : Nat → Int
  | 0 => 0
  | k + 1 => if s.worst k < s.drift k then s.drift k else s.worst k
theorem drift_bd {K : Nat} {s : St} (h : s.Bd K) (j : Nat) : 0 ≤ s.drift j ∧ s.drift j ≤ 2 * K := by
  have h1 := h.2.1 j; have h2 := h.2.2 j; unfold St.drift; omega
theorem worst_bd {K : Nat} {s : St} (h : s.Bd K) (k : Nat) : 0 ≤ s.worst k ∧ s.worst k ≤ 2 * K := by
  induction k with
  | zero => simp [St.worst]; omega
  | succ k ih => have := drift_bd h k; simp only [St.worst]; split <;> omega
theorem le_worst (s : St) (j k : Nat) (h : j < k) : s.drift j ≤ s.worst k := by
  induction k with
  | zero => omega
  | succ k ih =>
    simp only [St.worst]
    by_cases hj : j = k
    · subst hj; split <;> omega
    · have := ih (by omega); split <;> omega
end Go.Proofs.Ytefllgpehhlkoaa
