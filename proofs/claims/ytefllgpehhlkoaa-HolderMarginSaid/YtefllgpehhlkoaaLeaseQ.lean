/-
  Plain: what a call of the lease leaves, by its answer; a state in a variable is set anew.
-/
import Derived.Test.YtefllgpehhlkoaaLeaseP
import Derived.Test.YtefllgpehhlkoaaLease11
namespace Go.Proofs.Ytefllgpehhlkoaa
open Go.RowKit Go.Maps

/-- Grant, told by its answer -/
theorem grantL_cases (h : LS) (now term place holder : Int) (hr : Rising h.hs) :
    (∃ c, (c = 1 ∨ c = 16 ∨ c = 15 ∨ c = 2) ∧ grantL h now term place holder = (h, 0, c)) ∨
    (grantL h now term place holder = (⟨h.epoch + 1, h.quiet, mput (lasting h.hs now) place (holder, h.epoch + 1, now + term)⟩, h.epoch + 1, 0) ∧
      (1 ≤ term ∧ term ≤ 1048576 ∧ 0 ≤ now ∧ now ≤ 1099511627776 ∧ 0 ≤ holder) ∧ h.quiet ≤ now ∧ h.epoch < 1099511627776 ∧ ∀ x, whoL h.hs now place = some x → x.1 = holder) := by
  by_cases h1 : term < 1 ∨ 1048576 < term ∨ now < 0 ∨ 1099511627776 < now ∨ holder < 0
  · exact .inl ⟨1, by omega, grantL_bad h1⟩
  · by_cases h2 : now < h.quiet
    · exact .inl ⟨16, by omega, grantL_late' h1 h2⟩
    · by_cases h3 : ∃ x, whoL h.hs now place = some x ∧ ¬ x.1 = holder
      · obtain ⟨x, h4, h5⟩ := h3
        exact .inl ⟨15, by omega, grantL_busy' h1 h2 hr h4 h5⟩
      · have h4 : ∀ x, whoL h.hs now place = some x → x.1 = holder := fun x hx => by
          by_cases e : x.1 = holder
          · exact e
          · exact absurd ⟨x, hx, e⟩ h3
        by_cases h5 : 1099511627776 ≤ h.epoch
        · exact .inl ⟨2, by omega, grantL_big' h1 h2 hr h4 h5⟩
        · exact .inr ⟨grantL_ok' h1 h2 hr h4 h5, by omega, by omega, by omega, h4⟩
/-- Let, told by its answer -/
theorem letL_cases (h : LS) (now place holder epoch : Int) :
    (∃ c, (c = 8 ∨ c = 14) ∧ letL h now place holder epoch = (h, c)) ∨
    (letL h now place holder epoch = (⟨h.epoch, h.quiet, mdel (lasting h.hs now) place⟩, 0) ∧ ∃ u, whoL h.hs now place = some (holder, epoch, u)) := by
  unfold letL
  cases hw : whoL h.hs now place with
  | none => exact .inl ⟨8, .inl rfl, rfl⟩
  | some x =>
    obtain ⟨x0, x1, x2⟩ := x
    simp only
    by_cases hx : x0 = holder ∧ x1 = epoch
    · obtain ⟨rfl, rfl⟩ := hx
      exact .inr ⟨by simp, x2, rfl⟩
    · exact .inl ⟨14, .inr rfl, by rw [if_neg hx]⟩
theorem lasting_mdel (es : Trips) (now k : Int) : lasting (mdel (lasting es now) k) now = mdel (lasting es now) k := by
  unfold lasting mdel
  rw [List.filter_eq_self]
  intro p hp
  have h1 := (List.mem_filter.1 hp).1
  exact (List.mem_filter.1 h1).2
theorem mdel_miss {α : Type} {es : List (Int × α)} {k : Int} (h : ∀ p ∈ es, p.1 ≠ k) : mdel es k = es := by
  unfold mdel
  rw [List.filter_eq_self]
  intro p hp
  simpa using h p hp
theorem mdel_hit {α : Type} (k : Int) (x : α) : ∀ {es : List (Int × α)}, Rising es → mget es k = some x → (mdel es k).length + 1 = es.length
  | [], _, h => by cases h
  | p :: r, hr, h => by
    have hr' := List.pairwise_cons.1 hr
    have hd : mdel (p :: r) k = if p.1 = k then mdel r k else p :: mdel r k := by
      unfold mdel
      rw [List.filter_cons]
      by_cases h : p.1 = k
      · simp [h]
      · rw [beq_eq_false_iff_ne.2 h, if_neg h]; rfl
    rw [mget_cons] at h
    rw [hd]
    by_cases hk : p.1 = k
    · rw [if_pos hk, mdel_miss (fun q hq => by have := hr'.1 q hq; omega)]
      rfl
    · rw [if_neg hk] at h ⊢
      have := mdel_hit k x hr'.2 h
      rw [List.length_cons, List.length_cons, this]
theorem count_let {es : Trips} {now k : Int} {x : Int × Int × Int} (hr : Rising es) (hw : whoL es now k = some x) : (lasting (mdel (lasting es now) k) now).length + 1 = (lasting es now).length := by
  rw [lasting_mdel]
  exact mdel_hit k x (lasting_rising hr now) (by rw [mget_lasting now k hr]; exact hw)

/-! ### a state in its variable -/
theorem MapIs.away {α : Type} {E : Elem α} {w : World} {b : Nat} {m : Option Nat} {es : List (Int × α)} {l c : Int} {n : Option Nat} (h : MapIs E w m es) (k : LBox w b l c n) : ∀ x, m = some x → x ≠ b := by
  intro x hx e
  subst hx
  subst e
  have h' : MapAt E w x es := h
  have := h'.no_cell3 (i := 0)
  rw [k.c0] at this
  cases this
theorem MapIs.three {α : Type} {E : Elem α} {w : World} {b : Nat} {m : Option Nat} {es : List (Int × α)} {l c l' c' : Int} {n n' : Option Nat} (h : MapIs E w m es) (k : LBox w b l c n) : MapIs E (World.three w b l' c' n') m es :=
  h.kept (three_only w b l' c' n') (fun x hx => by have := h.away k x hx; omega)
theorem LVar.set {w : World} {b : Nat} {h h' : LS} {m n : Option Nat} (k : LVar w b h m) (h1 : MapIs tripE w n h'.hs) : LVar (World.three w b h'.epoch h'.quiet n) b h' n :=
  ⟨k.box.three, h1.three k.box, Nat.lt_of_lt_of_le k.lt (three_only w b _ _ _).size⟩
end Go.Proofs.Ytefllgpehhlkoaa
