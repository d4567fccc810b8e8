/-
  Plain: TillerTurns: what a clock says between its least and its most; who believes and who is granted.
-/
import Derived.Test.YtefllgpehhlkoaaClk3
import Derived.Test.YtefllgpehhlkoaaLeaseQ
import Derived.Test.YtefllgpehhlkoaaHold8
namespace Go.Proofs.Ytefllgpehhlkoaa

/-- a clock behind k ticks -/
def atK (n : Nat) (l : List Int) (k : Nat) : St := St.play n (l.take k)
theorem atK_succ (n : Nat) (l : List Int) (k : Nat) (h : k < l.length) : atK n l (k + 1) = (atK n l k).tick n (nth l k) := play_succ n l k h
theorem tick_mono (n : Nat) (s : St) (t : Int) (j : Nat) : s.N j ≤ (s.tick n t).N j ∧ (s.tick n t).L j ≤ s.L j ∧ s.H j ≤ (s.tick n t).H j := by
  unfold St.tick
  split
  · refine ⟨?_, ?_, ?_⟩
    · show s.N j ≤ bump s.N _ j; unfold bump; split <;> omega
    · show lesser s.L (bump s.N _) j ≤ s.L j; unfold lesser; split <;> omega
    · show s.H j ≤ greater s.H (bump s.N _) j; unfold greater; split <;> omega
  · exact ⟨Int.le_refl _, Int.le_refl _, Int.le_refl _⟩
theorem tick_in (n : Nat) (s : St) (t : Int) (j : Nat) (h : s.L j ≤ s.N j - s.N 0 ∧ s.N j - s.N 0 ≤ s.H j) : (s.tick n t).L j ≤ (s.tick n t).N j - (s.tick n t).N 0 ∧ (s.tick n t).N j - (s.tick n t).N 0 ≤ (s.tick n t).H j := by
  unfold St.tick
  split
  · constructor
    · show lesser s.L (bump s.N _) j ≤ _; unfold lesser; simp only [St.tickAt]; split <;> omega
    · show _ ≤ greater s.H (bump s.N _) j; unfold greater; simp only [St.tickAt]; split <;> omega
  · exact h
theorem atK_in (n : Nat) (l : List Int) (j : Nat) : ∀ k, k ≤ l.length → (atK n l k).L j ≤ (atK n l k).N j - (atK n l k).N 0 ∧ (atK n l k).N j - (atK n l k).N 0 ≤ (atK n l k).H j
  | 0, _ => by simp [atK, St.play, St.run, St.zero]
  | k + 1, h => by rw [atK_succ n l k (by omega)]; exact tick_in n _ _ j (atK_in n l j k (by omega))
theorem atK_mono (n : Nat) (l : List Int) (j k : Nat) : ∀ m, k + m ≤ l.length → (atK n l k).N j ≤ (atK n l (k + m)).N j ∧ (atK n l (k + m)).L j ≤ (atK n l k).L j ∧ (atK n l k).H j ≤ (atK n l (k + m)).H j
  | 0, _ => ⟨Int.le_refl _, Int.le_refl _, Int.le_refl _⟩
  | m + 1, h => by
    have ih := atK_mono n l j k m (by omega)
    have h1 := tick_mono n (atK n l (k + m)) (nth l (k + m)) j
    rw [← Nat.add_assoc, atK_succ n l (k + m) (by omega)]
    omega
/-- THE DRIFT: over any stretch a clock goes on by at most the drift more or fewer ticks than node 0's. -/
theorem atK_drift (n : Nat) (l : List Int) (j a k : Nat) (ha : a ≤ k) (hk : k ≤ l.length) :
    (atK n l k).N 0 - (atK n l a).N 0 ≤ (atK n l k).N j - (atK n l a).N j + (atK n l k).drift j ∧ (atK n l a).N 0 ≤ (atK n l k).N 0 ∧ (atK n l a).N j ≤ (atK n l k).N j := by
  obtain ⟨m, rfl⟩ : ∃ m, k = a + m := ⟨k - a, by omega⟩
  have h1 := atK_in n l j a (by omega)
  have h2 := atK_in n l j (a + m) hk
  have h3 := atK_mono n l j a m hk
  have h4 := atK_mono n l 0 a m hk
  unfold St.drift
  omega
theorem atK_bd (n : Nat) (l : List Int) (k : Nat) (hl : l.length ≤ 100) : (atK n l k).Bd 100 := Bd_mono (Bd_play n _) (by simp; omega)

/-! ### the states -/
def hs0 : HS := ⟨0, 0, [], []⟩
def hs1 (A : Int) : HS := ⟨0, 1, [(9, (1, A))], []⟩
def hs2 (A H term margin : Int) : HS := if A + term - margin ≤ H then ⟨0, 1, [], []⟩ else ⟨0, 1, [], [(9, (1, A + term - margin))]⟩
def ls0 : LS := ⟨0, 0, []⟩
def ls1 (G term : Int) : LS := ⟨1, 0, [(9, (1, 1, G + term))]⟩
theorem tt_ask (A : Int) (h : 0 ≤ A) (hk : A ≤ 100) : askH hs0 A 9 = (hs1 A, 1, 0) := by
  unfold askH hs0
  rw [if_neg (by simp only; omega), if_neg (by simp only; omega)]
  rfl
theorem tt_grant (G term : Int) (hg0 : 0 ≤ G) (hg1 : G ≤ 100) (h0 : 1 ≤ term) (h1 : term ≤ 1000) (ho : Int) (hh : 0 ≤ ho) : grantL ls0 G term 9 ho = (⟨1, 0, [(9, (ho, 1, G + term))]⟩, 1, 0) := by
  unfold grantL ls0
  rw [if_neg (by omega), if_neg (by simp only; omega), if_neg (by simp [lasting, mget]), if_neg (by decide)]
  rfl
theorem tt_granted (A H term margin : Int) (ha : 0 ≤ A) (ha2 : A ≤ 100) (hh : 0 ≤ H) (hh2 : H ≤ 100) (h0 : 1 ≤ term) (h1' : term ≤ 1000) (hm : 0 ≤ margin) (hm2 : margin ≤ 1000) : (grantH (hs1 A) H term margin 9 1 1).1 = hs2 A H term margin := by
  unfold grantH hs1 hs2
  simp only [mget, List.find?, beq_self_eq_true, Option.map_some]
  rw [if_pos trivial, if_neg (by omega)]
  by_cases hu : A + term - margin ≤ H
  · rw [if_pos hu, if_pos hu]; rfl
  · rw [if_neg hu, if_neg hu]; rfl
/-- does it believe? -/
theorem tt_bel (A H term margin now : Int) (hb : (believe (hs2 A H term margin).has now 9).2 = true) : now < A + term - margin := by
  unfold hs2 at hb
  by_cases hu : A + term - margin ≤ H
  · rw [if_pos hu] at hb; simp [believe, mget] at hb
  · rw [if_neg hu] at hb
    simp only [believe, mget, List.find?, beq_self_eq_true, Option.map_some] at hb
    by_cases hn : A + term - margin ≤ now
    · rw [if_pos hn] at hb; cases hb
    · omega
theorem tt_busy (G term now : Int) (hn0 : 0 ≤ now) (hn1 : now ≤ 100) (h0 : 1 ≤ term) (h1 : term ≤ 1000) (hb : now < G + term) : grantL (ls1 G term) now term 9 2 = (ls1 G term, 0, 15) := by
  refine grantL_busy' (by omega) (by show ¬ now < 0; omega) (by simp [ls1, Rising]) (x := (1, 1, G + term)) ?_ (by simp)
  simp only [ls1, whoL, mget, List.find?, beq_self_eq_true, Option.map_some]
  rw [if_neg (by omega)]
theorem tt_next (G term now : Int) (hn0 : 0 ≤ now) (hn1 : now ≤ 100) (h0 : 1 ≤ term) (h1 : term ≤ 1000) (hb : G + term ≤ now) : grantL (ls1 G term) now term 9 2 = (⟨2, 0, [(9, (2, 2, now + term))]⟩, 2, 0) := by
  rw [grantL_ok' (by omega) (by show ¬ now < 0; omega) (by simp [ls1, Rising]) (fun x hx => ?_) (by show ¬ (1099511627776 : Int) ≤ 1; decide)]
  · simp only [ls1]
    have : lasting [(9, (1, 1, G + term))] now = [] := by simp [lasting]; omega
    rw [this]
    rfl
  · simp only [ls1, whoL, mget, List.find?, beq_self_eq_true, Option.map_some] at hx
    rw [if_pos (by omega)] at hx
    cases hx
theorem tt_who (now term : Int) (h : 1 ≤ term) : whoL [(9, (2, 2, now + term))] now 9 = some (2, 2, now + term) := by
  simp only [whoL, mget, List.find?, beq_self_eq_true, Option.map_some]
  rw [if_neg (by omega)]
/-- no belief once the term is over -/
theorem tt_no (l : List Int) (a g i : Nat) (term margin : Int) (hag : a ≤ g) (hgi : g ≤ i) (hi : i ≤ l.length) (hw : (atK 3 l i).worst 3 ≤ margin) (hb : (atK 3 l g).N 0 + term ≤ (atK 3 l i).N 0) :
    (believe (hs2 ((atK 3 l a).N 1) ((atK 3 l g).N 1) term margin).has ((atK 3 l i).N 1) 9).2 = false := by
  cases h : (believe (hs2 ((atK 3 l a).N 1) ((atK 3 l g).N 1) term margin).has ((atK 3 l i).N 1) 9).2 with
  | false => rfl
  | true =>
    have h1 := tt_bel _ _ _ _ _ h
    have h2 := atK_drift 3 l 1 a i (by omega) hi
    have h3 := atK_drift 3 l 1 a g hag (by omega)
    have h4 := le_worst (atK 3 l i) 1 3 (by omega)
    omega
end Go.Proofs.Ytefllgpehhlkoaa
