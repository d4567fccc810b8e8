/-
  The contracts of lease and holder, at a world that came out of a known one.
-/
import Derived.Test.YtefllgpehhlkoaaLeaseQ
import Derived.Test.YtefllgpehhlkoaaHold8
import Derived.Test.YtefllgpehhlkoaaLease9
namespace Go.Proofs.Ytefllgpehhlkoaa
open Go.RowKit Go.Maps
set_option linter.unusedVariables false

/-- V came out of X: what was there is as it was. -/
abbrev Out (X V : World) : Prop := Only X.heap.size X.heap.size X V
theorem Out.thens {X V W : World} (h : Out X V) (k : Only V.heap.size V.heap.size V W) : Out X W := h.then k h.size

theorem grantL_from {X V : World} (hX : Out X V) {S S' : LS} {m : Option Nat} {ep qu now term place holder n c ep' qu' : Int} (hm : MapIs tripE X m S.hs) (he : S.epoch = ep) (hq : S.quiet = qu) (he' : S'.epoch = ep') (hq' : S'.quiet = qu')
    (hk : (Lit.int .i64 place).wf = true) (hlo : -9223372036854775808 ≤ S.epoch) (hn : (lasting S.hs now).length < 1000000) (hr : grantL S now term place holder = (S', n, c)) :
    Calls Try.prog 34 #[.agg #[.int .i64 ep, .int .i64 qu, .map m], .int .i64 now, .int .i64 term, .int .i64 place, .int .i64 holder] V fun e w' => ∃ m', e = .returned (.tuple #[.agg #[.int .i64 ep', .int .i64 qu', .map m'], .int .i64 n, .int .i64 c]) ∧ MapIs tripE w' m' S'.hs ∧ Out X w' ∧ Out V w' := by
  subst he; subst hq; subst he'; subst hq'
  have h := grantL_any V (lval S.epoch S.quiet m) S now term place holder ⟨m, rfl, hm.kept hX (by
    intro b hb; subst hb; have h' : MapAt tripE X b S.hs := hm; exact .inl h'.lt)⟩ hk hlo hn
  rw [hr] at h
  refine h.mono fun e w' ⟨v, he, ⟨m', hv, hs⟩, ho⟩ => ?_
  subst he; subst hv
  exact ⟨m', rfl, hs, hX.thens ho, ho⟩
theorem who_from {X V : World} (hX : Out X V) {S : LS} {m : Option Nat} {ep qu now place : Int} {o : Option (Int × Int × Int)} (hm : MapIs tripE X m S.hs) (hk : (Lit.int .i64 place).wf = true) (hr : whoL S.hs now place = o) :
    Calls Try.prog 41 #[.agg #[.int .i64 ep, .int .i64 qu, .map m], .int .i64 now, .int .i64 place] V fun e w' => e = .returned (.tuple #[.agg #[.int .i64 (o.getD (0, 0, 0)).1, .int .i64 (o.getD (0, 0, 0)).2.1, .int .i64 (o.getD (0, 0, 0)).2.2], .bool o.isSome]) ∧ Out X w' ∧ Out V w' := by
  subst hr
  exact (who_any V ep qu now place m S.hs (hm.kept hX (by intro b hb; subst hb; have h' : MapAt tripE X b S.hs := hm; exact .inl h'.lt)) hk).mono fun e w' h => ⟨h.1, hX.thens h.2, h.2⟩
theorem letL_from {X V : World} (hX : Out X V) {S S' : LS} {m : Option Nat} {ep qu now place holder epoch c ep' qu' : Int} (hm : MapIs tripE X m S.hs) (he : S.epoch = ep) (hq : S.quiet = qu) (he' : S'.epoch = ep') (hq' : S'.quiet = qu')
    (hk : (Lit.int .i64 place).wf = true) (hr : letL S now place holder epoch = (S', c)) :
    Calls Try.prog 36 #[.agg #[.int .i64 ep, .int .i64 qu, .map m], .int .i64 now, .int .i64 place, .int .i64 holder, .int .i64 epoch] V fun e w' => ∃ m', e = .returned (.tuple #[.agg #[.int .i64 ep', .int .i64 qu', .map m'], .int .i64 c]) ∧ MapIs tripE w' m' S'.hs ∧ Out X w' ∧ Out V w' := by
  subst he; subst hq; subst he'; subst hq'
  have h := letL_any V (lval S.epoch S.quiet m) S now place holder epoch ⟨m, rfl, hm.kept hX (by
    intro b hb; subst hb; have h' : MapAt tripE X b S.hs := hm; exact .inl h'.lt)⟩ hk
  rw [hr] at h
  refine h.mono fun e w' ⟨v, he, ⟨m', hv, hs⟩, ho⟩ => ?_
  subst he; subst hv
  exact ⟨m', rfl, hs, hX.thens ho, ho⟩
theorem restart_from {X V : World} (hX : Out X V) (m : Option Nat) (ep qu now term : Int) :
    Calls Try.prog 33 #[.agg #[.int .i64 ep, .int .i64 qu, .map m], .int .i64 now, .int .i64 term] V fun e w' => e = .returned (.agg #[.int .i64 ep, .int .i64 (quietL now term), .map none]) ∧ Out X w' ∧ Out V w' :=
  (restart_any V ep qu now term m).mono fun e w' h => ⟨h.1, hX.thens h.2, h.2⟩

theorem mapIs_out {α : Type} {E : Elem α} {X V : World} {m : Option Nat} {es : List (Int × α)} (hm : MapIs E X m es) (hX : Out X V) : MapIs E V m es :=
  hm.kept hX (by intro b hb; subst hb; have h' : MapAt E X b es := hm; exact .inl h'.lt)

section
variable {X V : World} (hX : Out X V) {H H' : HS} {m1 m2 : Option Nat} {li co li' co' : Int} (x1 : MapIs pairE X m1 H.wants) (x2 : MapIs pairE X m2 H.has) (hl : H.life = li) (hc : H.count = co) (hl' : H'.life = li') (hc' : H'.count = co')
include hX x1 x2 hl hc hl' hc'
theorem ask_from {now place n c : Int} (hk : (Lit.int .i64 place).wf = true) (hn : H.wants.length < 1000000) (hr : askH H now place = (H', n, c)) :
    Calls Try.prog 26 #[.agg #[.int .i64 li, .int .i64 co, .map m1, .map m2], .int .i64 now, .int .i64 place] V fun e w' => ∃ n1 n2, e = .returned (.tuple #[.agg #[.int .i64 li', .int .i64 co', .map n1, .map n2], .int .i64 n, .int .i64 c]) ∧ (MapIs pairE w' n1 H'.wants ∧ MapIs pairE w' n2 H'.has) ∧ Out X w' ∧ Out V w' := by
  subst hl; subst hc; subst hl'; subst hc'
  have h := ask_any V (hval H.life H.count m1 m2) H now place ⟨m1, m2, rfl, mapIs_out x1 hX, mapIs_out x2 hX⟩ hk hn
  rw [hr] at h
  refine h.mono fun e w' ⟨v, he, ⟨n1, n2, hv, y1, y2⟩, ho⟩ => ?_
  subst he; subst hv
  exact ⟨n1, n2, rfl, ⟨y1, y2⟩, hX.thens ho, ho⟩
theorem granted_from {now term margin place num epoch c : Int} (hk : (Lit.int .i64 place).wf = true) (hn : H.has.length < 1000000) (hr : grantH H now term margin place num epoch = (H', c)) :
    Calls Try.prog 27 #[.agg #[.int .i64 li, .int .i64 co, .map m1, .map m2], .int .i64 now, .agg #[.int .i64 term, .int .i64 margin], .int .i64 place, .int .i64 num, .int .i64 epoch] V fun e w' => ∃ n1 n2, e = .returned (.tuple #[.agg #[.int .i64 li', .int .i64 co', .map n1, .map n2], .int .i64 c]) ∧ (MapIs pairE w' n1 H'.wants ∧ MapIs pairE w' n2 H'.has) ∧ Out X w' ∧ Out V w' := by
  subst hl; subst hc; subst hl'; subst hc'
  have h := grant_any V (hval H.life H.count m1 m2) H now term margin place num epoch ⟨m1, m2, rfl, mapIs_out x1 hX, mapIs_out x2 hX⟩ hk hn
  rw [hr] at h
  refine h.mono fun e w' ⟨v, he, ⟨n1, n2, hv, y1, y2⟩, ho⟩ => ?_
  subst he; subst hv
  exact ⟨n1, n2, rfl, ⟨y1, y2⟩, hX.thens ho, ho⟩
theorem denied_from {place num c : Int} (hk : (Lit.int .i64 place).wf = true) (hr : denyH H place num = (H', c)) :
    Calls Try.prog 44 #[.agg #[.int .i64 li, .int .i64 co, .map m1, .map m2], .int .i64 place, .int .i64 num] V fun e w' => ∃ n1 n2, e = .returned (.tuple #[.agg #[.int .i64 li', .int .i64 co', .map n1, .map n2], .int .i64 c]) ∧ (MapIs pairE w' n1 H'.wants ∧ MapIs pairE w' n2 H'.has) ∧ Out X w' ∧ Out V w' := by
  subst hl; subst hc; subst hl'; subst hc'
  have h := deny_any V (hval H.life H.count m1 m2) H place num ⟨m1, m2, rfl, mapIs_out x1 hX, mapIs_out x2 hX⟩ hk
  rw [hr] at h
  refine h.mono fun e w' ⟨v, he, ⟨n1, n2, hv, y1, y2⟩, ho⟩ => ?_
  subst he; subst hv
  exact ⟨n1, n2, rfl, ⟨y1, y2⟩, hX.thens ho, ho⟩
theorem letH_from {place n c : Int} (hk : (Lit.int .i64 place).wf = true) (hr : letH H place = (H', n, c)) :
    Calls Try.prog 46 #[.agg #[.int .i64 li, .int .i64 co, .map m1, .map m2], .int .i64 place] V fun e w' => ∃ n1 n2, e = .returned (.tuple #[.agg #[.int .i64 li', .int .i64 co', .map n1, .map n2], .int .i64 n, .int .i64 c]) ∧ (MapIs pairE w' n1 H'.wants ∧ MapIs pairE w' n2 H'.has) ∧ Out X w' ∧ Out V w' := by
  subst hl; subst hc; subst hl'; subst hc'
  have h := let_any V (hval H.life H.count m1 m2) H place ⟨m1, m2, rfl, mapIs_out x1 hX, mapIs_out x2 hX⟩ hk
  rw [hr] at h
  refine h.mono fun e w' ⟨v, he, ⟨n1, n2, hv, y1, y2⟩, ho⟩ => ?_
  subst he; subst hv
  exact ⟨n1, n2, rfl, ⟨y1, y2⟩, hX.thens ho, ho⟩
end
theorem bel_from {X V : World} (hX : Out X V) {ys : Pairs} {m1 m2 : Option Nat} {li co now place : Int} {r : Int × Bool} (x2 : MapIs pairE X m2 ys) (hk : (Lit.int .i64 place).wf = true) (hr : believe ys now place = r) :
    Calls Try.prog 28 #[.agg #[.int .i64 li, .int .i64 co, .map m1, .map m2], .int .i64 now, .int .i64 place] V fun e w' => e = .returned (.tuple #[.int .i64 r.1, .bool r.2]) ∧ Out X w' ∧ Out V w' := by
  subst hr
  exact (believes_any V li co now place m1 m2 ys (mapIs_out x2 hX) hk).mono fun e w' h => ⟨h.1, hX.thens h.2, h.2⟩
theorem crash_from {X V : World} (hX : Out X V) (m1 m2 : Option Nat) (li co : Int) :
    Calls Try.prog 30 #[.agg #[.int .i64 li, .int .i64 co, .map m1, .map m2]] V fun e w' => e = .returned (.agg #[.int .i64 (nextLife li), .int .i64 0, .map none, .map none]) ∧ Out X w' ∧ Out V w' :=
  (crash_any V li co m1 m2).mono fun e w' h => ⟨h.1, hX.thens h.2, h.2⟩
end Go.Proofs.Ytefllgpehhlkoaa
