/-
  Plain: the holder's sorted lists and the document's lists in the order of asking: the same.
-/
import Derived.Test.YtefllgpehhlkoaaRefH6
namespace Go.Proofs.Ytefllgpehhlkoaa

/-- the same places, with the same -/
structure Sim (es xs : Pairs) : Prop where
  perm : es.Perm xs
  apart : es.Pairwise fun p q => p.1 ≠ q.1
theorem Sim.nil : Sim [] [] := ⟨List.Perm.refl _, List.Pairwise.nil⟩
theorem mget_perm {es xs : Pairs} (k : Int) (h : es.Perm xs) : es.Pairwise (fun p q => p.1 ≠ q.1) → mget es k = mget xs k := by
  induction h with
  | nil => intro _; rfl
  | cons x _ ih =>
    intro hp
    rw [mget_cons, mget_cons, ih (List.pairwise_cons.1 hp).2]
  | swap x y l =>
    intro hp
    have h1 := (List.pairwise_cons.1 hp).1 x (List.mem_cons_self ..)
    simp only [mget_cons]
    by_cases hx : x.1 = k
    · by_cases hy : y.1 = k
      · exact absurd (hy.trans hx.symm) h1
      · rw [if_neg hy, if_pos hx, if_pos hx]
    · rw [if_neg hx, if_neg hx]
  | trans h1 h2 ih1 ih2 =>
    intro hp
    rw [ih1 hp]
    exact ih2 (h1.pairwise hp (fun hab => Ne.symm hab))
theorem Sim.get {es xs : Pairs} (h : Sim es xs) (k : Int) : mget es k = mget xs k := mget_perm k h.perm h.apart
theorem Sim.len {es xs : Pairs} (h : Sim es xs) : es.length = xs.length := h.perm.length_eq
theorem Sim.del {es xs : Pairs} (h : Sim es xs) (k : Int) : Sim (mdel es k) (mdel xs k) := ⟨h.perm.filter _, List.Pairwise.filter _ h.apart⟩
theorem mins_perm {α : Type} (x : Int × α) : ∀ es : List (Int × α), (mins x es).Perm (x :: es)
  | [] => List.Perm.refl _
  | y :: r => by
    simp only [mins]
    split
    · exact List.Perm.refl _
    · exact ((mins_perm x r).cons y).trans (List.Perm.swap x y r)
theorem Sim.put {es xs : Pairs} (h : Sim es xs) (k : Int) (x : Int × Int) : Sim (mput es k x) (mdel xs k ++ [(k, x)]) := by
  have hd := h.del k
  have hp : (mput es k x).Perm ((k, x) :: mdel es k) := mins_perm _ _
  refine ⟨hp.trans (((hd.perm.cons _)).trans (List.perm_append_singleton _ _).symm), ?_⟩
  refine hp.symm.pairwise (List.pairwise_cons.2 ⟨fun q hq => ?_, hd.apart⟩) (fun hab => Ne.symm hab)
  have := (List.mem_filter.1 hq).2
  simp at this
  exact fun e => this e.symm
/-- the same state -/
structure SimS (H X : HS) : Prop where
  life : H.life = X.life
  count : H.count = X.count
  wants : Sim H.wants X.wants
  has : Sim H.has X.has
theorem SimS.ask {H X : HS} (h : SimS H X) (now place : Int) : SimS (askH H now place).1 (askX X now place).1 ∧ (askH H now place).2 = (askX X now place).2 := by
  unfold askH askX
  rw [h.life, h.count]
  by_cases h1 : now < 0 ∨ 1099511627776 < now ∨ X.life < 0 ∨ X.count < 0
  · rw [if_pos h1, if_pos h1]; exact ⟨h, rfl⟩
  · rw [if_neg h1, if_neg h1]
    by_cases h2 : 524288 ≤ X.life ∨ 1048575 ≤ X.count
    · rw [if_pos h2, if_pos h2]; exact ⟨h, rfl⟩
    · rw [if_neg h2, if_neg h2]
      exact ⟨⟨rfl, rfl, h.wants.put place _, h.has⟩, rfl⟩
theorem SimS.deny {H X : HS} (h : SimS H X) (place num : Int) : SimS (denyH H place num).1 (denyH X place num).1 ∧ (denyH H place num).2 = (denyH X place num).2 := by
  unfold denyH
  rw [h.wants.get place]
  cases mget X.wants place with
  | none => exact ⟨h, rfl⟩
  | some x =>
    dsimp only
    by_cases hx : x.1 = num
    · rw [if_pos hx, if_pos hx]; exact ⟨⟨h.life, h.count, h.wants.del place, h.has⟩, rfl⟩
    · rw [if_neg hx, if_neg hx]; exact ⟨h, rfl⟩
theorem SimS.letting {H X : HS} (h : SimS H X) (place : Int) : SimS (letH H place).1 (letH X place).1 ∧ (letH H place).2 = (letH X place).2 := by
  unfold letH
  rw [h.has.get place]
  cases mget X.has place with
  | none => exact ⟨h, rfl⟩
  | some x => exact ⟨⟨h.life, h.count, h.wants, h.has.del place⟩, rfl⟩
theorem SimS.grant {H X : HS} (h : SimS H X) (now term margin place num epoch : Int) : SimS (grantH H now term margin place num epoch).1 (grantX X now term margin place num epoch).1 ∧ (grantH H now term margin place num epoch).2 = (grantX X now term margin place num epoch).2 := by
  unfold grantH grantX until'
  rw [h.wants.get place, h.has.get place]
  cases mget X.wants place with
  | none => exact ⟨h, rfl⟩
  | some x =>
    dsimp only
    by_cases hx : x.1 = num
    · rw [if_pos hx, if_pos hx]
      by_cases hb : term < 1 ∨ 1048576 < term ∨ margin < 0 ∨ 1048576 < margin ∨ now < 0 ∨ 1099511627776 < now ∨ x.2 < 0 ∨ 1099511627776 < x.2
      · rw [if_pos hb, if_pos hb]; exact ⟨h, rfl⟩
      · rw [if_neg hb, if_neg hb]
        by_cases hu : x.2 + term - margin ≤ now
        · rw [if_pos hu, if_pos hu]; exact ⟨⟨h.life, h.count, h.wants.del place, h.has⟩, rfl⟩
        · rw [if_neg hu, if_neg hu]; exact ⟨⟨h.life, h.count, h.wants.del place, h.has.put place _⟩, rfl⟩
    · rw [if_neg hx, if_neg hx]; exact ⟨h, rfl⟩
theorem SimS.crash {H X : HS} (h : SimS H X) : SimS ⟨nextLife H.life, 0, [], []⟩ ⟨nextLife X.life, 0, [], []⟩ := ⟨by rw [h.life], rfl, Sim.nil, Sim.nil⟩

/-! ### lengths -/
structure HLen (k : Nat) (H : HS) : Prop where
  wants : H.wants.length ≤ k
  has : H.has.length ≤ k
theorem HLen.mono {k k' : Nat} {H : HS} (h : HLen k H) (hk : k ≤ k') : HLen k' H := ⟨Nat.le_trans h.wants hk, Nat.le_trans h.has hk⟩
theorem mdelx_len {es : Pairs} {k : Nat} (p : Int) (x : Int × Int) (h : es.length ≤ k) : (mdel es p ++ [(p, x)]).length ≤ k + 1 := by
  have := mdel_len es p
  simp
  omega
theorem HLen.ask {k : Nat} {X : HS} (h : HLen k X) (now place : Int) : HLen (k + 1) (askX X now place).1 := by
  unfold askX
  split
  · exact h.mono (Nat.le_succ k)
  · split
    · exact h.mono (Nat.le_succ k)
    · exact ⟨mdelx_len _ _ h.wants, Nat.le_succ_of_le h.has⟩
theorem HLen.deny {k : Nat} {X : HS} (h : HLen k X) (place num : Int) : HLen (k + 1) (denyH X place num).1 := by
  unfold denyH
  split
  · exact h.mono (Nat.le_succ k)
  · split
    · exact ⟨Nat.le_succ_of_le (Nat.le_trans (mdel_len _ _) h.wants), Nat.le_succ_of_le h.has⟩
    · exact h.mono (Nat.le_succ k)
theorem HLen.letting {k : Nat} {X : HS} (h : HLen k X) (place : Int) : HLen (k + 1) (letH X place).1 := by
  unfold letH
  split
  · exact h.mono (Nat.le_succ k)
  · exact ⟨Nat.le_succ_of_le h.wants, Nat.le_succ_of_le (Nat.le_trans (mdel_len _ _) h.has)⟩
theorem HLen.grant {k : Nat} {X : HS} (h : HLen k X) (now term margin place num epoch : Int) : HLen (k + 1) (grantX X now term margin place num epoch).1 := by
  unfold grantX
  split
  · exact h.mono (Nat.le_succ k)
  · split
    · split
      · exact h.mono (Nat.le_succ k)
      · split
        · exact ⟨Nat.le_succ_of_le (Nat.le_trans (mdel_len _ _) h.wants), Nat.le_succ_of_le h.has⟩
        · exact ⟨Nat.le_succ_of_le (Nat.le_trans (mdel_len _ _) h.wants), mdelx_len _ _ h.has⟩
    · exact h.mono (Nat.le_succ k)
theorem HLen.sim {k : Nat} {H X : HS} (h : HLen k X) (s : SimS H X) : HLen k H := ⟨by rw [s.wants.len]; exact h.wants, by rw [s.has.len]; exact h.has⟩
end Go.Proofs.Ytefllgpehhlkoaa
