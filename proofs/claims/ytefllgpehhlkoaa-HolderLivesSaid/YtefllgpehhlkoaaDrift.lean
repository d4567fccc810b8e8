/-
  THE PLAIN LAW of clocks: the drift that is kept tick by tick is the greatest difference over all stretches. No Go in sight.
-/
import Derived.Test.YtefllgpehhlkoaaRef
namespace Go.Proofs.Ytefllgpehhlkoaa

/-- how far ahead of node 0's clock behind the first k ticks -/
def ahead (l : List Int) (i : Int) (k : Nat) : Int := cnt (l.take k) i - cnt (l.take k) 0

theorem ahead_zero (l : List Int) (i : Int) : ahead l i 0 = 0 := by simp [ahead, cnt]
theorem ahead_succ (l : List Int) (i : Int) (k : Nat) (h : k < l.length) : ahead l i (k + 1) = ahead l i k + (if nth l k = i then 1 else 0) - (if nth l k = 0 then 1 else 0) := by
  unfold ahead; rw [take_nth h, cnt_snoc, cnt_snoc]; omega

/-- a tick of a clock that is there -/
def okTicks (n : Nat) (l : List Int) : Prop := ∀ k, k < l.length → 0 ≤ nth l k ∧ nth l k < n

theorem play_inv (n : Nat) (l : List Int) (hok : okTicks n l) (i : Nat) (k : Nat) : k ≤ l.length →
    (∀ j : Nat, (St.play n (l.take k)).N j = cnt (l.take k) j) ∧
    (∀ m, m ≤ k → (St.play n (l.take k)).L i ≤ ahead l i m ∧ ahead l i m ≤ (St.play n (l.take k)).H i) ∧
    (∃ m, m ≤ k ∧ (St.play n (l.take k)).L i = ahead l i m) ∧ (∃ m, m ≤ k ∧ (St.play n (l.take k)).H i = ahead l i m) ∧
    (St.play n (l.take k)).L 0 = 0 ∧ (St.play n (l.take k)).H 0 = 0 := by
  induction k with
  | zero =>
    intro _
    have e : St.play n (l.take 0) = St.zero := by simp [St.play, St.run]
    rw [e]
    refine ⟨fun j => by simp [St.zero, cnt], fun m hm => ?_, ⟨0, Nat.le_refl _, ?_⟩, ⟨0, Nat.le_refl _, ?_⟩, rfl, rfl⟩
    · obtain rfl : m = 0 := by omega
      rw [ahead_zero]; simp [St.zero]
    · rw [ahead_zero]; simp [St.zero]
    · rw [ahead_zero]; simp [St.zero]
  | succ k ih =>
    intro hk
    obtain ⟨hN, hB, ⟨mL, hmL, hL⟩, ⟨mH, hmH, hH⟩, hL0, hH0⟩ := ih (by omega)
    have hv := hok k (by omega)
    have e : St.play n (l.take (k + 1)) = (St.play n (l.take k)).tickAt (nth l k).toNat := by
      rw [play_succ n l k (by omega), St.tick, if_pos hv]
    rw [e]
    generalize St.play n (l.take k) = s at *
    obtain ⟨t, ht⟩ := Int.eq_ofNat_of_zero_le hv.1
    have ht' : (nth l k).toNat = t := by omega
    rw [ht']
    have hN' : ∀ j : Nat, (s.tickAt t).N j = cnt (l.take (k + 1)) j := by
      intro j
      rw [take_nth (by omega), cnt_snoc, ht]
      simp only [St.tickAt, bump]
      rw [hN j]
      by_cases hj : j = t
      · subst hj; simp
      · rw [if_neg hj, if_neg (by omega)]; omega
    have hA : (s.tickAt t).N i - (s.tickAt t).N 0 = ahead l i (k + 1) := by
      rw [hN' i, hN' 0]; rfl
    have hL' : (s.tickAt t).L i = if (s.tickAt t).N i - (s.tickAt t).N 0 < s.L i then (s.tickAt t).N i - (s.tickAt t).N 0 else s.L i := rfl
    have hH' : (s.tickAt t).H i = if s.H i < (s.tickAt t).N i - (s.tickAt t).N 0 then (s.tickAt t).N i - (s.tickAt t).N 0 else s.H i := rfl
    rw [hA] at hL' hH'
    refine ⟨hN', fun m hm => ?_, ?_, ?_, ?_, ?_⟩
    · by_cases hmk : m = k + 1
      · subst hmk; rw [hL', hH']; constructor <;> split <;> omega
      · have := hB m (by omega); rw [hL', hH']; constructor <;> split <;> omega
    · rw [hL']; split
      · exact ⟨k + 1, Nat.le_refl _, rfl⟩
      · exact ⟨mL, by omega, hL⟩
    · rw [hH']; split
      · exact ⟨k + 1, Nat.le_refl _, rfl⟩
      · exact ⟨mH, by omega, hH⟩
    · have : (s.tickAt t).L 0 = if (s.tickAt t).N 0 - (s.tickAt t).N 0 < s.L 0 then (s.tickAt t).N 0 - (s.tickAt t).N 0 else s.L 0 := rfl
      rw [this, hL0]; split <;> omega
    · have : (s.tickAt t).H 0 = if s.H 0 < (s.tickAt t).N 0 - (s.tickAt t).N 0 then (s.tickAt t).N 0 - (s.tickAt t).N 0 else s.H 0 := rfl
      rw [this, hH0]; split <;> omega

/-! ### the stretches -/
theorem rin_fst (i : Int) (l : List Int) (a : Nat) (w : Int) (j : Nat) : a + j ≤ l.length → (rin i ((l.drop a).take j) (0, w)).1 = ahead l i (a + j) - ahead l i a := by
  induction j with
  | zero => intro _; simp [rin]
  | succ j ih =>
    intro h
    have hd : j < (l.drop a).length := by simp; omega
    rw [take_nth hd, rin_snoc, nth_drop]
    have := ih (by omega)
    have h1 := ahead_succ l i (a + j) (by omega)
    rw [show a + (j + 1) = a + j + 1 by omega, h1]
    simp only [rstep]
    rw [this]
    split <;> split <;> omega
theorem rin_snd (i : Int) (l : List Int) (a : Nat) (w : Int) (hw : 0 ≤ w) (j : Nat) : a + j ≤ l.length →
    w ≤ (rin i ((l.drop a).take j) (0, w)).2 ∧ (∀ m, m ≤ j → ahead l i (a + m) - ahead l i a ≤ (rin i ((l.drop a).take j) (0, w)).2 ∧ ahead l i a - ahead l i (a + m) ≤ (rin i ((l.drop a).take j) (0, w)).2) ∧
    ((rin i ((l.drop a).take j) (0, w)).2 = w ∨ ∃ m, m ≤ j ∧ ((rin i ((l.drop a).take j) (0, w)).2 = ahead l i (a + m) - ahead l i a ∨ (rin i ((l.drop a).take j) (0, w)).2 = ahead l i a - ahead l i (a + m))) := by
  induction j with
  | zero =>
    intro _
    have e : (rin i ((l.drop a).take 0) (0, w)).2 = w := by simp [rin]
    rw [e]
    exact ⟨Int.le_refl _, fun m hm => by obtain rfl : m = 0 := by omega
                                         simp; omega, .inl rfl⟩
  | succ j ih =>
    intro h
    obtain ⟨h1, h2, h3⟩ := ih (by omega)
    have hf := rin_fst i l a w (j + 1) h
    have hd : j < (l.drop a).length := by simp; omega
    have es := rin_snoc i ((l.drop a).take j) (nth (l.drop a) j) (0, w)
    rw [← take_nth hd] at es
    generalize hx : rin i ((l.drop a).take j) (0, w) = x at *
    generalize hy : rin i ((l.drop a).take (j + 1)) (0, w) = y at *
    have e2 : y.2 = if (if x.2 < y.1 then y.1 else x.2) < -y.1 then -y.1 else (if x.2 < y.1 then y.1 else x.2) := by rw [es]; rfl
    rw [hf] at e2
    refine ⟨by rw [e2]; split <;> split <;> omega, fun m hm => ?_, ?_⟩
    · by_cases hmj : m = j + 1
      · subst hmj; rw [e2]; constructor <;> split <;> split <;> omega
      · have := h2 m (by omega); rw [e2]; constructor <;> split <;> split <;> omega
    · by_cases c1 : (if x.2 < ahead l i (a + (j + 1)) - ahead l i a then ahead l i (a + (j + 1)) - ahead l i a else x.2) < -(ahead l i (a + (j + 1)) - ahead l i a)
      · rw [if_pos c1] at e2
        exact .inr ⟨j + 1, Nat.le_refl _, .inr (by rw [e2]; omega)⟩
      · rw [if_neg c1] at e2
        by_cases c2 : x.2 < ahead l i (a + (j + 1)) - ahead l i a
        · rw [if_pos c2] at e2; exact .inr ⟨j + 1, Nat.le_refl _, .inl e2⟩
        · rw [if_neg c2] at e2
          rcases h3 with h3 | ⟨m, hm, h3⟩
          · exact .inl (e2.trans h3)
          · exact .inr ⟨m, by omega, by rw [e2]; exact h3⟩
theorem rout_inv (i : Int) (l : List Int) (k : Nat) : k ≤ l.length →
    0 ≤ rout i l k ∧ (∀ a b, a < k → a ≤ b → b ≤ l.length → ahead l i b - ahead l i a ≤ rout i l k ∧ ahead l i a - ahead l i b ≤ rout i l k) ∧
    (rout i l k = 0 ∨ ∃ a b, a ≤ l.length ∧ b ≤ l.length ∧ (rout i l k = ahead l i b - ahead l i a)) := by
  induction k with
  | zero => intro _; exact ⟨Int.le_refl _, fun a b h => by omega, .inl rfl⟩
  | succ k ih =>
    intro hk
    obtain ⟨h1, h2, h3⟩ := ih (by omega)
    obtain ⟨g1, g2, g3⟩ := rin_snd i l k (rout i l k) h1 (l.length - k) (by omega)
    have e : (l.drop k).take (l.length - k) = l.drop k := List.take_of_length_le (by simp)
    rw [e] at g1 g2 g3
    have e2 : rout i l (k + 1) = (rin i (l.drop k) (0, rout i l k)).2 := rfl
    rw [← e2] at g1 g2 g3
    refine ⟨by omega, fun a b ha hab hb => ?_, ?_⟩
    · by_cases hak : a = k
      · subst hak
        have := g2 (b - a) (by omega)
        rw [show a + (b - a) = b by omega] at this
        exact this
      · have := h2 a b (by omega) hab hb
        omega
    · rcases g3 with g3 | ⟨m, hm, g3 | g3⟩
      · rcases h3 with h3 | ⟨a, b, ha, hb, h3⟩
        · exact .inl (by omega)
        · exact .inr ⟨a, b, by omega, hb, by omega⟩
      · exact .inr ⟨k, k + m, by omega, by omega, g3⟩
      · exact .inr ⟨k + m, k, by omega, by omega, g3⟩

/-- THE LAW. -/
theorem drift_is (n : Nat) (l : List Int) (hok : okTicks n l) (i : Nat) : (St.play n l).drift i = rout i l l.length := by
  have hp := play_inv n l hok i l.length (Nat.le_refl _)
  rw [List.take_length] at hp
  obtain ⟨_, hB, ⟨mL, hmL, hL⟩, ⟨mH, hmH, hH⟩, _, _⟩ := hp
  obtain ⟨r1, r2, r3⟩ := rout_inv i l l.length (Nat.le_refl _)
  have up : rout i l l.length ≤ (St.play n l).drift i := by
    unfold St.drift
    rcases r3 with r3 | ⟨a, b, ha, hb, r3⟩
    · have := hB 0 (by omega); omega
    · have h1 := hB a (by omega); have h2 := hB b hb; omega
  have lo : (St.play n l).drift i ≤ rout i l l.length := by
    unfold St.drift
    rw [hL, hH]
    by_cases h : mL = mH
    · subst h; omega
    · by_cases h' : mL < mH
      · have := r2 mL mH (by omega) (by omega) hmH; omega
      · have := r2 mH mL (by omega) (by omega) hmL; omega
  omega
theorem drift_zero (n : Nat) (l : List Int) (hok : okTicks n l) : (St.play n l).drift 0 = 0 := by
  have hp := play_inv n l hok 1 l.length (Nat.le_refl _)
  rw [List.take_length] at hp
  unfold St.drift
  rw [hp.2.2.2.2.1, hp.2.2.2.2.2]; rfl
theorem count_is (n : Nat) (l : List Int) (hok : okTicks n l) (i : Nat) : (St.play n l).N i = cnt l i := by
  have hp := play_inv n l hok 1 l.length (Nat.le_refl _)
  rw [List.take_length] at hp
  exact hp.1 i
end Go.Proofs.Ytefllgpehhlkoaa
