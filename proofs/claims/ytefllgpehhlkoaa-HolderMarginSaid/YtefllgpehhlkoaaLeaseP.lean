/-
  Plain: the lease's laws on sorted lists.
-/
import Derived.Test.YtefllgpehhlkoaaLease10
namespace Go.Proofs.Ytefllgpehhlkoaa

theorem lasting_cons (p : Int × Int × Int × Int) (r : Trips) (now : Int) : lasting (p :: r) now = if now < p.2.2.2 then p :: lasting r now else lasting r now := by
  unfold lasting
  rw [List.filter_cons]
  by_cases h : now < p.2.2.2 <;> simp [h]
theorem mget_none {α : Type} {es : List (Int × α)} {k : Int} (h : ∀ p ∈ es, p.1 ≠ k) : mget es k = none := by
  unfold mget
  rw [Option.map_eq_none_iff, List.find?_eq_none]
  intro p hp
  simpa using h p hp
theorem mem_lasting {es : Trips} {now : Int} {p : Int × Int × Int × Int} (h : p ∈ lasting es now) : p ∈ es ∧ now < p.2.2.2 := by
  unfold lasting at h
  rw [List.mem_filter] at h
  exact ⟨h.1, by simpa using h.2⟩
theorem lasting_rising {es : Trips} (h : Rising es) (now : Int) : Rising (lasting es now) := List.Pairwise.filter _ h
theorem lasting_len (es : Trips) (now : Int) : (lasting es now).length ≤ es.length := List.length_filter_le _ _
theorem mget_lasting (now k : Int) : ∀ {es : Trips}, Rising es → mget (lasting es now) k = whoL es now k
  | [], _ => rfl
  | p :: r, h => by
    have hr := List.pairwise_cons.1 h
    have ih := mget_lasting now k hr.2
    unfold whoL at ih ⊢
    rw [lasting_cons, mget_cons]
    by_cases hk : p.1 = k
    · rw [if_pos hk]
      by_cases hl : now < p.2.2.2
      · rw [if_pos hl, mget_cons, if_pos hk]
        simp only
        rw [if_neg (by omega)]
      · rw [if_neg hl]
        simp only
        rw [if_pos (by omega)]
        exact mget_none (fun q hq => by have := hr.1 q (mem_lasting hq).1; omega)
    · rw [if_neg hk]
      by_cases hl : now < p.2.2.2
      · rw [if_pos hl, mget_cons, if_neg hk]; exact ih
      · rw [if_neg hl]; exact ih
theorem whoL_put {es : Trips} {k : Int} {x : Int × Int × Int} {now j : Int} : whoL (mput es k x) now j = if k = j then (if x.2.2 ≤ now then none else some x) else whoL es now j := by
  unfold whoL
  rw [mget_put]
  by_cases h : k = j
  · rw [if_pos h, if_pos h]
  · rw [if_neg h, if_neg h]
theorem whoL_del {es : Trips} {k now j : Int} : whoL (mdel es k) now j = if k = j then none else whoL es now j := by
  unfold whoL
  rw [mget_del]
  by_cases h : k = j
  · rw [if_pos h, if_pos h]
  · rw [if_neg h, if_neg h]

/-- Grant, by cases -/
theorem grantL_bad {h : LS} {now term place holder : Int} (hb : term < 1 ∨ 1048576 < term ∨ now < 0 ∨ 1099511627776 < now ∨ holder < 0) : grantL h now term place holder = (h, 0, 1) := by
  unfold grantL; rw [if_pos hb]
theorem grantL_late' {h : LS} {now term place holder : Int} (hb : ¬ (term < 1 ∨ 1048576 < term ∨ now < 0 ∨ 1099511627776 < now ∨ holder < 0)) (hq : now < h.quiet) : grantL h now term place holder = (h, 0, 16) := by
  unfold grantL; rw [if_neg hb, if_pos hq]
theorem grantL_busy' {h : LS} {now term place holder : Int} (hb : ¬ (term < 1 ∨ 1048576 < term ∨ now < 0 ∨ 1099511627776 < now ∨ holder < 0)) (hq : ¬ now < h.quiet) (hr : Rising h.hs) {x : Int × Int × Int} (hw : whoL h.hs now place = some x) (hx : ¬ x.1 = holder) : grantL h now term place holder = (h, 0, 15) := by
  unfold grantL; rw [if_neg hb, if_neg hq, if_pos ⟨x, by rw [mget_lasting now place hr]; exact hw, hx⟩]
theorem grantL_big' {h : LS} {now term place holder : Int} (hb : ¬ (term < 1 ∨ 1048576 < term ∨ now < 0 ∨ 1099511627776 < now ∨ holder < 0)) (hq : ¬ now < h.quiet) (hr : Rising h.hs) (hw : ∀ x, whoL h.hs now place = some x → x.1 = holder) (he : 1099511627776 ≤ h.epoch) : grantL h now term place holder = (h, 0, 2) := by
  unfold grantL; rw [if_neg hb, if_neg hq, if_neg (fun ⟨x, h1, h2⟩ => h2 (hw x (by rw [mget_lasting now place hr] at h1; exact h1))), if_pos he]
theorem grantL_ok' {h : LS} {now term place holder : Int} (hb : ¬ (term < 1 ∨ 1048576 < term ∨ now < 0 ∨ 1099511627776 < now ∨ holder < 0)) (hq : ¬ now < h.quiet) (hr : Rising h.hs) (hw : ∀ x, whoL h.hs now place = some x → x.1 = holder) (he : ¬ 1099511627776 ≤ h.epoch) :
    grantL h now term place holder = (⟨h.epoch + 1, h.quiet, mput (lasting h.hs now) place (holder, h.epoch + 1, now + term)⟩, h.epoch + 1, 0) := by
  unfold grantL; rw [if_neg hb, if_neg hq, if_neg (fun ⟨x, h1, h2⟩ => h2 (hw x (by rw [mget_lasting now place hr] at h1; exact h1))), if_neg he]

/-! ### LeaseBack -/
/-- the state behind the grant -/
def bkT (epoch now term place a : Int) (es : Trips) : LS := ⟨epoch + 1, 0, mput (lasting es now) place (a, epoch + 1, now + term)⟩
def bkU (epoch now term place a : Int) (es : Trips) : LS := ⟨epoch + 1, 0, mdel (lasting (bkT epoch now term place a es).hs now) place⟩
structure BkOk (epoch now term place a b : Int) (es : Trips) : Prop where
  e0 : 0 ≤ epoch
  e1 : epoch ≤ 1073741824
  n0 : 0 ≤ now
  n1 : now ≤ 1073741824
  t0 : 1 ≤ term
  t1 : term ≤ 1048576
  a0 : 0 ≤ a
  b0 : 0 ≤ b
  ne : a ≠ b
  up : Rising es
  len : es.length ≤ 10
theorem bk_who {epoch now term place a : Int} {es : Trips} (j : Int) (hj2 : j < now + term) : whoL (bkT epoch now term place a es).hs j place = some (a, epoch + 1, now + term) := by
  show whoL (mput _ _ _) j place = _
  rw [whoL_put, if_pos rfl, if_neg (by simp only; omega)]
theorem bk_over {epoch now term place a : Int} {es : Trips} (j : Int) (hj : now + term ≤ j) : whoL (bkT epoch now term place a es).hs j place = none := by
  show whoL (mput _ _ _) j place = _
  rw [whoL_put, if_pos rfl, if_pos (by simp only; omega)]
section
variable {epoch now term place a b : Int} {es : Trips} (h : BkOk epoch now term place a b es)
include h
theorem bk_up : Rising (bkT epoch now term place a es).hs := mput_rising (lasting_rising h.up now) _ _
theorem bk_len : (bkT epoch now term place a es).hs.length ≤ 11 := by
  have h1 := mput_len (lasting es now) place (a, epoch + 1, now + term)
  have h2 := lasting_len es now
  have h3 := h.len
  show (mput _ _ _).length ≤ 11
  omega
theorem bk_g1 (hw : ∀ x, whoL es now place = some x → x.1 = a) : grantL ⟨epoch, 0, es⟩ now term place a = (bkT epoch now term place a es, epoch + 1, 0) := by
  have := h.e0; have := h.e1; have := h.n0; have := h.n1; have := h.t0; have := h.t1; have := h.a0
  rw [grantL_ok' (by omega) (by show ¬ now < 0; omega) h.up hw (by show ¬ 1099511627776 ≤ epoch; omega)]
  rfl
theorem bk_g2 : grantL (bkT epoch now term place a es) (now + term - 1) term place b = (bkT epoch now term place a es, 0, 15) := by
  have := h.e0; have := h.e1; have := h.n0; have := h.n1; have := h.t0; have := h.t1; have := h.b0
  exact grantL_busy' (by omega) (by show ¬ now + term - 1 < 0; omega) (bk_up h) (bk_who _ (by omega)) h.ne
theorem bk_g3 : ∃ S, grantL (bkT epoch now term place a es) (now + term) term place b = (⟨epoch + 1 + 1, 0, S⟩, epoch + 1 + 1, 0) := by
  have := h.e0; have := h.e1; have := h.n0; have := h.n1; have := h.t0; have := h.t1; have := h.b0
  exact ⟨_, grantL_ok' (by omega) (by show ¬ now + term < 0; omega) (bk_up h) (fun x hx => by rw [bk_over _ (by omega)] at hx; cases hx) (by show ¬ 1099511627776 ≤ epoch + 1; omega)⟩
theorem bk_l1 : letL (bkT epoch now term place a es) now place a (epoch + 1) = (bkU epoch now term place a es, 0) := by
  have := h.t0
  unfold letL
  rw [bk_who now (by omega)]
  simp only
  rw [if_pos ⟨trivial, trivial⟩]
  rfl
theorem bk_g4 : ∃ S, grantL (bkU epoch now term place a es) now term place b = (⟨epoch + 1 + 1, 0, S⟩, epoch + 1 + 1, 0) := by
  have := h.e0; have := h.e1; have := h.n0; have := h.n1; have := h.t0; have := h.t1; have := h.b0
  refine ⟨_, grantL_ok' (by omega) (by show ¬ now < 0; omega) (mdel_rising (lasting_rising (bk_up h) now) _) (fun x hx => ?_) (by show ¬ 1099511627776 ≤ epoch + 1; omega)⟩
  change whoL (mdel _ _) now place = some x at hx
  rw [whoL_del, if_pos rfl] at hx
  cases hx
theorem bk_l2 : letL (bkT epoch now term place a es) now place b (epoch + 1) = (bkT epoch now term place a es, 14) := by
  have := h.t0
  unfold letL
  rw [bk_who now (by omega)]
  simp only
  rw [if_neg (fun hc => h.ne hc.1)]
theorem bk_few (j : Int) : (lasting (bkT epoch now term place a es).hs j).length < 1000000 := by
  have h1 := lasting_len (bkT epoch now term place a es).hs j
  have h2 := bk_len h
  omega
theorem bk_fewU (j : Int) : (lasting (bkU epoch now term place a es).hs j).length < 1000000 := by
  have h1 := lasting_len (bkU epoch now term place a es).hs j
  have h2 : (bkU epoch now term place a es).hs.length ≤ _ := mdel_len _ _
  have h3 := lasting_len (bkT epoch now term place a es).hs now
  have h4 := bk_len h
  omega
end
end Go.Proofs.Ytefllgpehhlkoaa
