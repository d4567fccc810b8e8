/-
  Clocks that tick by turns; all ticks are somebody's. No Go in sight.
-/
import Derived.Test.YtefllgpehhlkoaaSeen
namespace Go.Proofs.Ytefllgpehhlkoaa

/-- the first k clocks together -/
def total (s : St) : Nat → Int
  | 0 => 0
  | k + 1 => total s k + s.N k
theorem total_bump (s : St) (t k : Nat) : total (s.tickAt t) k = total s k + if t < k then 1 else 0 := by
  induction k with
  | zero => simp [total]
  | succ k ih =>
    simp only [total, ih]
    have e : (s.tickAt t).N k = if k = t then s.N k + 1 else s.N k := rfl
    rw [e]
    by_cases h1 : t < k
    · rw [if_pos h1, if_neg (by omega), if_pos (by omega)]; omega
    · by_cases h2 : k = t
      · subst h2; rw [if_neg h1, if_pos rfl, if_pos (by omega)]; omega
      · rw [if_neg h1, if_neg h2, if_neg (by omega)]; omega
theorem total_bd {K : Nat} {s : St} (h : s.Bd K) (k : Nat) : 0 ≤ total s k ∧ total s k ≤ K * k := by
  induction k with
  | zero => simp [total]
  | succ k ih => have := h.1 k; simp only [total]; rw [Int.natCast_add, Int.mul_add]; omega
theorem total_is (n : Nat) (l : List Int) (k : Nat) : k ≤ l.length → total (St.play n (l.take k)) n = (seen n (l.take k)).length := by
  induction k with
  | zero =>
    intro _
    have : ∀ m, total St.zero m = 0 := fun m => by induction m with
      | zero => rfl
      | succ m ih => simp only [total, ih]; rfl
    simpa [St.play, St.run, seen] using this n
  | succ k ih =>
    intro hk
    rw [play_succ n l k (by omega), take_nth (by omega)]
    by_cases h : 0 ≤ nth l k ∧ nth l k < n
    · rw [St.tick, if_pos h, total_bump, ih (by omega), if_pos (by omega), seen_snoc_yes _ _ _ h]
      simp
    · rw [St.tick, if_neg h, ih (by omega), seen_snoc_no _ _ _ h]

/-- behind r rounds and k ticks of the next one -/
structure Even (n r k : Nat) (l : List Int) : Prop where
  len : l.length = r * n + k
  N : ∀ j, j < n → (St.play n l).N j = r + if j < k then 1 else 0
  L : ∀ j, j < n → -1 ≤ (St.play n l).L j
  H : ∀ j, j < n → (St.play n l).H j ≤ 0
theorem Even.start (n : Nat) : Even n 0 0 [] := by
  refine ⟨by simp, fun j _ => ?_, fun j _ => ?_, fun j _ => ?_⟩ <;> simp [St.play, St.run, St.zero]
theorem Even.next {n r k : Nat} {l : List Int} (h : Even n r k l) (hk : k < n) : Even n r (k + 1) (l ++ [(k : Int)]) := by
  have e : St.play n (l ++ [(k : Int)]) = (St.play n l).tickAt k := by
    unfold St.play; rw [run_snoc, St.tick, if_pos (by omega)]; simp
  have hN : ∀ j, j < n → ((St.play n l).tickAt k).N j = r + if j < k + 1 then 1 else 0 := by
    intro j hj
    have e2 : ((St.play n l).tickAt k).N j = if j = k then (St.play n l).N j + 1 else (St.play n l).N j := rfl
    rw [e2, h.N j hj]
    by_cases h1 : j = k
    · subst h1; rw [if_pos rfl, if_neg (by omega), if_pos (by omega)]; omega
    · by_cases h2 : j < k
      · rw [if_neg h1, if_pos h2, if_pos (by omega)]
      · rw [if_neg h1, if_neg h2, if_neg (by omega)]
  refine ⟨by simp [h.len]; omega, fun j hj => by rw [e]; exact hN j hj, fun j hj => ?_, fun j hj => ?_⟩
  · rw [e]
    have e2 : ((St.play n l).tickAt k).L j = if ((St.play n l).tickAt k).N j - ((St.play n l).tickAt k).N 0 < (St.play n l).L j then ((St.play n l).tickAt k).N j - ((St.play n l).tickAt k).N 0 else (St.play n l).L j := rfl
    rw [e2, hN j hj, hN 0 (by omega)]
    have := h.L j hj
    split <;> (try split) <;> (try split) <;> omega
  · rw [e]
    have e2 : ((St.play n l).tickAt k).H j = if (St.play n l).H j < ((St.play n l).tickAt k).N j - ((St.play n l).tickAt k).N 0 then ((St.play n l).tickAt k).N j - ((St.play n l).tickAt k).N 0 else (St.play n l).H j := rfl
    rw [e2, hN j hj, hN 0 (by omega)]
    have := h.H j hj
    split <;> (try split) <;> (try split) <;> omega
theorem Even.round {n r : Nat} {l : List Int} (h : Even n r n l) : Even n (r + 1) 0 l := by
  refine ⟨by rw [h.len, Nat.succ_mul]; omega, fun j hj => ?_, h.L, h.H⟩
  rw [h.N j hj, if_pos hj]; simp
theorem Even.worst {n r : Nat} {l : List Int} (h : Even n r 0 l) : (St.play n l).worst n ≤ 1 := by
  have : ∀ k, k ≤ n → (St.play n l).worst k ≤ 1 := by
    intro k
    induction k with
    | zero => intro _; simp [St.worst]
    | succ k ih =>
      intro hk
      have := ih (by omega)
      have h1 := h.L k (by omega)
      have h2 := h.H k (by omega)
      have e : (St.play n l).worst (k + 1) = if (St.play n l).worst k < (St.play n l).drift k then (St.play n l).drift k else (St.play n l).worst k := rfl
      rw [e]
      unfold St.drift
      by_cases c : (St.play n l).worst k < (St.play n l).H k - (St.play n l).L k
      · rw [if_pos c]; omega
      · rw [if_neg c]; omega
  exact this n (Nat.le_refl _)
end Go.Proofs.Ytefllgpehhlkoaa
