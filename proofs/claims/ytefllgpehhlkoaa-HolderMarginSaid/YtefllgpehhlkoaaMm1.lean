/-
  Plain: THE MARGIN: a world of an authority, three holders and what is on its way; what holds behind every move; who believes.
  Plain: THE MARGIN: a message comes; every move keeps what holds; who believes is known.
  HolderMargin: at, Begin.
  A block that is known whole; the cells of a world, stored.
  A struct of many cells, stored and loaded at once, where its block is known whole.
  HolderMargin: how a world lies in memory; Begin.
-/
import Derived.Test.YtefllgpehhlkoaaTurnsP
import Derived.Test.YtefllgpehhlkoaaTurnsA
import Derived.Laws.CopyRow
import Derived.Laws.Tables
import Derived.Laws.Rows
namespace Go.Proofs.Ytefllgpehhlkoaa
set_option linter.unusedVariables false
set_option linter.unusedSimpArgs false

/-- a message -/
structure Word where
  kind : Int
  holder : Nat
  place : Int
  num : Int
  epoch : Int
/-- a world -/
structure MW where
  c : St
  s : LS
  hs : Nat → HS
  way : List Word
  began : Bool

def setH (f : Nat → HS) (h : Nat) (x : HS) : Nat → HS := fun j => if j = h then x else f j
theorem setH_same (f : Nat → HS) (h : Nat) (x : HS) : setH f h x h = x := by simp [setH]
theorem setH_other (f : Nat → HS) {h j : Nat} (x : HS) (e : j ≠ h) : setH f h x j = f j := by simp [setH, e]

/-- a message comes: what becomes of the authority and the holders, and what is sent -/
def comeS (term : Int) (w : MW) (m : Word) : LS :=
  if m.kind = 1 then (grantL w.s (w.c.N 0) term m.place m.holder).1
  else if m.kind = 4 then (letL w.s (w.c.N 0) m.place m.holder m.epoch).1
  else w.s
def comeH (term margin : Int) (w : MW) (m : Word) : Nat → HS :=
  if m.kind = 2 then setH w.hs m.holder (grantH (w.hs m.holder) (w.c.N m.holder) term margin m.place m.num m.epoch).1
  else if m.kind = 3 then setH w.hs m.holder (denyH (w.hs m.holder) m.place m.num).1
  else w.hs
def answer (term : Int) (w : MW) (m : Word) : Word :=
  let r := grantL w.s (w.c.N 0) term m.place m.holder
  ⟨if r.2.2 = 0 then 2 else 3, m.holder, m.place, m.num, r.2.1⟩
def come (term margin : Int) (w : MW) (m : Word) : MW :=
  ⟨w.c, comeS term w m, comeH term margin w m, if m.kind = 1 then w.way ++ [answer term w m] else w.way, w.began⟩

def w0 : Word := ⟨0, 0, 0, 0, 0⟩
/-- a move -/
def nextM (term margin : Int) (w : MW) (kind i place : Int) : MW :=
  if kind = 0 then { w with c := w.c.tickAt (i % 4).toNat }
  else if kind = 1 then
    let h := 1 + (i % 3).toNat
    let r := askH (w.hs h) (w.c.N h) (place % 2)
    { w with hs := setH w.hs h r.1, way := if r.2.2 = 0 ∧ w.way.length < 200 then w.way ++ [⟨1, h, place % 2, r.2.1, 0⟩] else w.way }
  else if kind = 2 ∨ kind = 3 ∨ kind = 4 then
    if w.way.length = 0 then w
    else
      let j := (i % w.way.length).toNat
      let x := w.way.getD j w0
      let w1 := if kind = 3 then w else { w with way := w.way.eraseIdx j }
      if kind ≠ 4 ∧ w1.way.length < 200 then come term margin w1 x else w1
  else if kind = 5 then
    let h := 1 + (i % 3).toNat
    let r := letH (w.hs h) (place % 2)
    { w with hs := setH w.hs h r.1, way := if r.2.2 = 0 ∧ w.way.length < 200 then w.way ++ [⟨4, h, place % 2, 0, r.2.1⟩] else w.way }
  else if kind = 6 then
    let h := 1 + (i % 3).toNat
    { w with hs := setH w.hs h ⟨nextLife (w.hs h).life, 0, [], []⟩ }
  else if kind = 7 then { w with s := ⟨w.s.epoch, quietL (w.c.N 0) term, []⟩, began := true }
  else w

/-! ### what holds -/
/-- what of a holding lasts -/
def lastg (o : Option (Int × Int × Int)) (A : Int) : Option (Int × Int × Int) :=
  match o with
  | none => none
  | some x => if x.2.2 ≤ A then none else some x
theorem whoL_lastg (es : Trips) (A p : Int) : whoL es A p = lastg (mget es p) A := rfl
theorem lastg_lastg (o : Option (Int × Int × Int)) (A B : Int) : lastg (lastg o A) B = lastg o (max A B) := by
  unfold lastg
  cases o with
  | none => rfl
  | some x =>
    dsimp only
    by_cases h1 : x.2.2 ≤ A
    · rw [if_pos h1, if_pos (by omega)]
    · rw [if_neg h1]
      dsimp only
      by_cases h2 : x.2.2 ≤ B
      · rw [if_pos h2, if_pos (by omega)]
      · rw [if_neg h2, if_neg (by omega)]
theorem whoL_later (es : Trips) {A B : Int} (h : A ≤ B) (p : Int) : whoL es B p = lastg (whoL es A p) B := by
  rw [whoL_lastg, whoL_lastg, lastg_lastg]
  congr 1
  omega
theorem lastg_none_of {o : Option (Int × Int × Int)} {A : Int} (h : ∀ x, o = some x → x.2.2 ≤ A) : lastg o A = none := by
  cases o with
  | none => rfl
  | some x => unfold lastg; dsimp only; rw [if_pos (h x rfl)]
theorem lastg_some {o : Option (Int × Int × Int)} {A : Int} {x : Int × Int × Int} (h : lastg o A = some x) : o = some x ∧ A < x.2.2 := by
  unfold lastg at h
  cases o with
  | none => cases h
  | some y =>
    dsimp only at h
    by_cases h1 : y.2.2 ≤ A
    · rw [if_pos h1] at h; cases h
    · rw [if_neg h1] at h; cases h; exact ⟨rfl, by omega⟩
theorem lastg_yes {x : Int × Int × Int} {A : Int} (h : A < x.2.2) : lastg (some x) A = some x := by
  unfold lastg; dsimp only; rw [if_neg (by omega)]

abbrev Ghost := Int → Option (Int × Int × Int)
/-- holder h need not fear: the moment u is over, or the place is his until then -/
def Prot (g : Ghost) (A p : Int) (h : Nat) (e u : Int) : Prop := u ≤ A ∨ ∃ e' t, g p = some ((h : Int), e', t) ∧ e ≤ e' ∧ u ≤ t
/-- at one moment the holder's clock said x, the authority's a -/
def Seg (c : St) (h : Nat) (x a : Int) : Prop := a ≤ c.N 0 ∧ c.L h ≤ x - a ∧ x - a ≤ c.H h
def bound (h : HS) : Int := h.life * 1048576 + h.count
/-- every let on its way is of an elder epoch -/
def Elder (way : List Word) (h : Nat) (p e : Int) : Prop := ∀ m ∈ way, m.kind = 4 → m.holder = h → m.place = p → m.epoch < e
/-- an answer does not harm -/
structure Fine (g : Ghost) (A : Int) (way : List Word) (hs : HS) (h : Nat) (p u : Int) (e : Int) : Prop where
  prot : Prot g A p h e u
  above : ∀ y, mget hs.has p = some y → y.1 < e
  elder : Elder way h p e

structure HasOk (term margin : Int) (g : Ghost) (w : MW) (h : Nat) (p : Int) (x : Int × Int) (ca a : Int) : Prop where
  seg : Seg w.c h ca a
  upto : x.2 ≤ ca + term - margin
  prot : Prot g (w.c.N 0) p h x.1 (a + term)
  known : x.1 ≤ w.s.epoch
  elder : Elder w.way h p x.1
structure WantOk (term : Int) (g : Ghost) (w : MW) (h : Nat) (p : Int) (x : Int × Int) (a : Int) : Prop where
  seg : Seg w.c h x.2 a
  fine : ∀ m ∈ w.way, m.kind = 2 → m.holder = h → m.place = p → m.num = x.1 → Fine g (w.c.N 0) w.way (w.hs h) h p (a + term) m.epoch
structure Inv (term margin : Int) (g : Ghost) (w : MW) : Prop where
  rel : ∀ p, whoL w.s.hs (w.c.N 0) p = lastg (g p) (max (w.c.N 0) w.s.quiet)
  gu : ∀ p x, g p = some x → x.2.2 ≤ w.c.N 0 + term
  up : Rising w.s.hs
  quiet : w.began = false → w.s.quiet = 0
  epoch0 : 0 ≤ w.s.epoch
  clk : ∀ j, w.c.L j ≤ w.c.N j - w.c.N 0 ∧ w.c.N j - w.c.N 0 ≤ w.c.H j
  has : ∀ h p x, mget (w.hs h).has p = some x → ∃ ca a, HasOk term margin g w h p x ca a
  wants : ∀ h p x, mget (w.hs h).wants p = some x → ∃ a, WantOk term g w h p x a
  nums : ∀ m ∈ w.way, m.kind = 1 ∨ m.kind = 2 → m.num ≤ bound (w.hs m.holder)
  eps : ∀ m ∈ w.way, m.epoch ≤ w.s.epoch
  lifes : ∀ h, 0 ≤ (w.hs h).life ∧ (w.hs h).life ≤ 524288 ∧ 0 ≤ (w.hs h).count ∧ (w.hs h).count ≤ 1048575 ∧ ((w.hs h).life = 524288 → (w.hs h).count = 0)

variable {term margin : Int} {g : Ghost} {w : MW}

theorem Elder.less {way way' : List Word} {h : Nat} {p e : Int} (k : Elder way h p e) (hs : ∀ m ∈ way', m ∈ way) : Elder way' h p e := fun m hm => k m (hs m hm)
/-- messages are lost -/
theorem Inv.less (k : Inv term margin g w) {way' : List Word} (hs : ∀ m ∈ way', m ∈ w.way) : Inv term margin g { w with way := way' } where
  rel := k.rel
  gu := k.gu
  up := k.up
  quiet := k.quiet
  epoch0 := k.epoch0
  clk := k.clk
  has h p x hx := by
    obtain ⟨ca, a, o⟩ := k.has h p x hx
    exact ⟨ca, a, o.seg, o.upto, o.prot, o.known, o.elder.less hs⟩
  wants h p x hx := by
    obtain ⟨a, o⟩ := k.wants h p x hx
    refine ⟨a, o.seg, fun m hm h1 h2 h3 h4 => ?_⟩
    have f := o.fine m (hs m hm) h1 h2 h3 h4
    exact ⟨f.prot, f.above, f.elder.less hs⟩
  nums m hm := k.nums m (hs m hm)
  eps m hm := k.eps m (hs m hm)
  lifes := k.lifes

theorem Seg.tick {c : St} {h : Nat} {x a : Int} (k : Seg c h x a) (i : Nat) : Seg (c.tickAt i) h x a := by
  obtain ⟨h1, h2, h3⟩ := k
  refine ⟨?_, ?_, ?_⟩
  · show a ≤ bump c.N i 0; unfold bump; split <;> omega
  · show lesser c.L _ h ≤ _; unfold lesser; split <;> omega
  · show _ ≤ greater c.H _ h; unfold greater; split <;> omega
theorem tickAt_0 (c : St) (i : Nat) : c.N 0 ≤ (c.tickAt i).N 0 := by show c.N 0 ≤ bump c.N i 0; unfold bump; split <;> omega
theorem Prot.later {A B p : Int} {h : Nat} {e u : Int} (k : Prot g A p h e u) (hab : A ≤ B) : Prot g B p h e u := by
  rcases k with k | k
  · exact .inl (by omega)
  · exact .inr k

/-- a clock ticks -/
theorem Inv.tick (k : Inv term margin g w) (i : Nat) : Inv term margin g { w with c := w.c.tickAt i } where
  rel p := by
    show whoL w.s.hs ((w.c.tickAt i).N 0) p = lastg (g p) (max ((w.c.tickAt i).N 0) w.s.quiet)
    have h := tickAt_0 w.c i
    rw [whoL_later w.s.hs h, k.rel p, lastg_lastg]
    congr 1
    omega
  gu p x hx := by have h := tickAt_0 w.c i; have := k.gu p x hx; show x.2.2 ≤ (w.c.tickAt i).N 0 + term; omega
  up := k.up
  quiet := k.quiet
  epoch0 := k.epoch0
  clk j := by
    constructor
    · show lesser w.c.L _ j ≤ _; unfold lesser; simp only [St.tickAt]; split <;> omega
    · show _ ≤ greater w.c.H _ j; unfold greater; simp only [St.tickAt]; split <;> omega
  has h p x hx := by
    obtain ⟨ca, a, o⟩ := k.has h p x hx
    exact ⟨ca, a, o.seg.tick i, o.upto, o.prot.later (tickAt_0 w.c i), o.known, o.elder⟩
  wants h p x hx := by
    obtain ⟨a, o⟩ := k.wants h p x hx
    refine ⟨a, o.seg.tick i, fun m hm h1 h2 h3 h4 => ?_⟩
    have f := o.fine m hm h1 h2 h3 h4
    exact ⟨f.prot.later (tickAt_0 w.c i), f.above, f.elder⟩
  nums := k.nums
  eps := k.eps
  lifes := k.lifes

/-- a message that is no answer and no let is sent -/
theorem Elder.more {way : List Word} {h : Nat} {p e : Int} (k : Elder way h p e) {m : Word} (hm : m.kind ≠ 4) : Elder (way ++ [m]) h p e := fun m' hm' h4 h5 h6 => by
  rcases List.mem_append.1 hm' with h | h
  · exact k m' h h4 h5 h6
  · rw [List.mem_singleton.1 h] at h4; exact absurd h4 hm

/-- a holder asks -/
theorem Inv.ask (k : Inv term margin g w) (h : Nat) (p : Int) (b : Bool) :
    Inv term margin g { w with hs := setH w.hs h (askH (w.hs h) (w.c.N h) p).1, way := if (askH (w.hs h) (w.c.N h) p).2.2 = 0 ∧ b = true then w.way ++ [⟨1, h, p, (askH (w.hs h) (w.c.N h) p).2.1, 0⟩] else w.way } := by
  by_cases hok : ∃ c, askH (w.hs h) (w.c.N h) p = (w.hs h, 0, c) ∧ c ≠ 0
  · obtain ⟨c, e, hc⟩ := hok
    rw [e]
    have e2 : setH w.hs h (w.hs h) = w.hs := by funext j; unfold setH; split <;> simp_all
    simp only [e2]
    rw [if_neg (by omega)]
    exact k
  have hl := k.lifes h
  have e : askH (w.hs h) (w.c.N h) p = (⟨(w.hs h).life, (w.hs h).count + 1, mput (w.hs h).wants p ((w.hs h).life * 1048576 + ((w.hs h).count + 1), w.c.N h), (w.hs h).has⟩, (w.hs h).life * 1048576 + ((w.hs h).count + 1), 0) ∧ (w.hs h).life < 524288 ∧ (w.hs h).count < 1048575 := by
    unfold askH at hok ⊢
    by_cases h1 : w.c.N h < 0 ∨ 1099511627776 < w.c.N h ∨ (w.hs h).life < 0 ∨ (w.hs h).count < 0
    · rw [if_pos h1] at hok; exact absurd ⟨1, rfl, by decide⟩ hok
    · rw [if_neg h1] at hok ⊢
      by_cases h2 : 524288 ≤ (w.hs h).life ∨ 1048575 ≤ (w.hs h).count
      · rw [if_pos h2] at hok; exact absurd ⟨2, rfl, by decide⟩ hok
      · rw [if_neg h2]; exact ⟨rfl, by omega, by omega⟩
  clear hok
  obtain ⟨e, hl1, hl2⟩ := e
  rw [e]
  have hway : ∀ m ∈ (if (0 : Int) = 0 ∧ b = true then w.way ++ [⟨1, h, p, (w.hs h).life * 1048576 + ((w.hs h).count + 1), 0⟩] else w.way), m ∈ w.way ∨ m = ⟨1, h, p, (w.hs h).life * 1048576 + ((w.hs h).count + 1), 0⟩ := by
    intro m hm
    split at hm
    · rcases List.mem_append.1 hm with h | h
      · exact .inl h
      · exact .inr (List.mem_singleton.1 h)
    · exact .inl hm
  have hel : ∀ {h' : Nat} {p' e' : Int}, Elder w.way h' p' e' → Elder (if (0 : Int) = 0 ∧ b = true then w.way ++ [⟨1, h, p, (w.hs h).life * 1048576 + ((w.hs h).count + 1), 0⟩] else w.way) h' p' e' := by
    intro h' p' e' ho m hm h4
    rcases hway m hm with h1 | rfl
    · exact ho m h1 h4
    · exact absurd h4 (show (1 : Int) ≠ 4 by decide)
  have hbd : ∀ j, bound (w.hs j) ≤ bound (setH w.hs h ⟨(w.hs h).life, (w.hs h).count + 1, mput (w.hs h).wants p ((w.hs h).life * 1048576 + ((w.hs h).count + 1), w.c.N h), (w.hs h).has⟩ j) := by
    intro j
    unfold setH bound
    split
    · rename_i e; subst e; show _ ≤ (w.hs j).life * 1048576 + ((w.hs j).count + 1); omega
    · exact Int.le_refl _
  have hhas : ∀ j, (setH w.hs h ⟨(w.hs h).life, (w.hs h).count + 1, mput (w.hs h).wants p ((w.hs h).life * 1048576 + ((w.hs h).count + 1), w.c.N h), (w.hs h).has⟩ j).has = (w.hs j).has := by
    intro j
    unfold setH
    split
    · rename_i e; subst e; rfl
    · rfl
  refine ⟨k.rel, k.gu, k.up, k.quiet, k.epoch0, k.clk, ?_, ?_, ?_, ?_, ?_⟩
  · intro j q x hx
    have hx' : mget (w.hs j).has q = some x := by rw [← hhas j]; exact hx
    obtain ⟨ca, a, o⟩ := k.has j q x hx'
    exact ⟨ca, a, o.seg, o.upto, o.prot, o.known, hel o.elder⟩
  · intro j q x hx
    by_cases hjq : j = h ∧ p = q
    · obtain ⟨rfl, rfl⟩ := hjq
      have hx' : mget (mput (w.hs j).wants p ((w.hs j).life * 1048576 + ((w.hs j).count + 1), w.c.N j)) p = some x := by
        have := hx; simp only [setH_same] at this; exact this
      rw [mget_put, if_pos rfl] at hx'
      cases hx'
      refine ⟨w.c.N 0, ⟨Int.le_refl _, (k.clk j).1, (k.clk j).2⟩, fun m hm h1 h2 h3 h4 => ?_⟩
      exfalso
      rcases hway m hm with h5 | rfl
      · have := k.nums m h5 (.inr h1)
        rw [h2, h4] at this
        unfold bound at this
        simp only at this
        omega
      · exact absurd h1 (show (1 : Int) ≠ 2 by decide)
    · have hx' : mget (w.hs j).wants q = some x := by
        have h0 := hx
        simp only at h0
        by_cases hj : j = h
        · subst hj
          rw [setH_same] at h0
          simp only at h0
          rw [mget_put, if_neg (fun e => hjq ⟨rfl, e⟩)] at h0
          exact h0
        · rw [setH_other _ _ hj] at h0; exact h0
      obtain ⟨a, o⟩ := k.wants j q x hx'
      refine ⟨a, o.seg, fun m hm h1 h2 h3 h4 => ?_⟩
      rcases hway m hm with h5 | rfl
      · have f := o.fine m h5 h1 h2 h3 h4
        exact ⟨f.prot, fun y hy => f.above y (by rw [← hhas j]; exact hy), hel f.elder⟩
      · exact absurd h1 (show (1 : Int) ≠ 2 by decide)
  · intro m hm h1
    rcases hway m hm with h5 | rfl
    · exact Int.le_trans (k.nums m h5 h1) (hbd m.holder)
    · show _ ≤ bound (setH w.hs h _ h)
      rw [setH_same]
      exact Int.le_refl _
  · intro m hm
    rcases hway m hm with h5 | rfl
    · exact k.eps m h5
    · exact k.epoch0
  · intro j
    show 0 ≤ (setH w.hs h _ j).life ∧ _
    by_cases hj : j = h
    · subst hj; simp only [setH_same]; omega
    · simp only [setH_other _ _ hj]; exact k.lifes j

/-- a holder crashes -/
theorem Inv.crash (k : Inv term margin g w) (h : Nat) : Inv term margin g { w with hs := setH w.hs h ⟨nextLife (w.hs h).life, 0, [], []⟩ } := by
  have hl := k.lifes h
  refine ⟨k.rel, k.gu, k.up, k.quiet, k.epoch0, k.clk, ?_, ?_, ?_, k.eps, ?_⟩
  · intro j q x hx
    simp only at hx
    by_cases hj : j = h
    · subst hj; rw [setH_same] at hx; cases hx
    · rw [setH_other _ _ hj] at hx
      obtain ⟨ca, a, o⟩ := k.has j q x hx
      exact ⟨ca, a, o.seg, o.upto, o.prot, o.known, o.elder⟩
  · intro j q x hx
    simp only at hx
    by_cases hj : j = h
    · subst hj; rw [setH_same] at hx; cases hx
    · rw [setH_other _ _ hj] at hx
      obtain ⟨a, o⟩ := k.wants j q x hx
      refine ⟨a, o.seg, fun m hm h1 h2 h3 h4 => ?_⟩
      have f := o.fine m hm h1 h2 h3 h4
      exact ⟨f.prot, fun y hy => f.above y (by simp only at hy; rw [setH_other _ _ hj] at hy; exact hy), f.elder⟩
  · intro m hm h1
    have := k.nums m hm h1
    simp only
    by_cases hj : m.holder = h
    · rw [hj, setH_same]
      rw [hj] at this
      unfold bound nextLife at *
      simp only
      omega
    · rw [setH_other _ _ hj]; exact this
  · intro j
    simp only
    by_cases hj : j = h
    · subst hj; rw [setH_same]; refine ⟨?_, ?_, Int.le_refl _, (show (0 : Int) ≤ 1048575 by decide), fun _ => rfl⟩ <;> (show _ ≤ _; simp only [nextLife]; omega)
    · simp only [setH_other _ _ hj]; exact k.lifes j

/-- the authority begins anew -/
theorem Inv.restart (k : Inv term margin g w) (hA : 0 ≤ w.c.N 0) (hA2 : w.c.N 0 ≤ 1099511627776) (ht : 1 ≤ term) (ht2 : term ≤ 1048576) : Inv term margin g { w with s := ⟨w.s.epoch, quietL (w.c.N 0) term, []⟩, began := true } where
  rel p := by
    show whoL [] (w.c.N 0) p = lastg (g p) (max (w.c.N 0) (quietL (w.c.N 0) term))
    rw [lastg_none_of (fun x hx => by have := k.gu p x hx; unfold quietL; omega)]
    rfl
  gu := k.gu
  up := List.Pairwise.nil
  quiet h := by cases h
  epoch0 := k.epoch0
  clk := k.clk
  has h p x hx := by
    obtain ⟨ca, a, o⟩ := k.has h p x hx
    exact ⟨ca, a, o.seg, o.upto, o.prot, o.known, o.elder⟩
  wants h p x hx := by
    obtain ⟨a, o⟩ := k.wants h p x hx
    exact ⟨a, o.seg, o.fine⟩
  nums := k.nums
  eps := k.eps
  lifes := k.lifes

/-- a holder gives a place back -/
theorem Inv.letting (k : Inv term margin g w) (h : Nat) (p : Int) (b : Bool) :
    Inv term margin g { w with hs := setH w.hs h (letH (w.hs h) p).1, way := if (letH (w.hs h) p).2.2 = 0 ∧ b = true then w.way ++ [⟨4, h, p, 0, (letH (w.hs h) p).2.1⟩] else w.way } := by
  cases hg : mget (w.hs h).has p with
  | none =>
    have e : letH (w.hs h) p = (w.hs h, 0, 8) := by unfold letH; rw [hg]
    rw [e]
    have e2 : setH w.hs h (w.hs h) = w.hs := by funext j; unfold setH; split <;> simp_all
    simp only [e2]
    rw [if_neg (by omega)]
    exact k
  | some z =>
    have e : letH (w.hs h) p = (⟨(w.hs h).life, (w.hs h).count, (w.hs h).wants, mdel (w.hs h).has p⟩, z.1, 0) := by unfold letH; rw [hg]
    rw [e]
    obtain ⟨zca, za, zo⟩ := k.has h p z hg
    have hway : ∀ m ∈ (if (0 : Int) = 0 ∧ b = true then w.way ++ [⟨4, h, p, 0, z.1⟩] else w.way), m ∈ w.way ∨ m = ⟨4, h, p, 0, z.1⟩ := by
      intro m hm
      split at hm
      · rcases List.mem_append.1 hm with h | h
        · exact .inl h
        · exact .inr (List.mem_singleton.1 h)
      · exact .inl hm
    have hel : ∀ {h' : Nat} {p' e' : Int}, Elder w.way h' p' e' → (h' = h → p' = p → z.1 < e') → Elder (if (0 : Int) = 0 ∧ b = true then w.way ++ [⟨4, h, p, 0, z.1⟩] else w.way) h' p' e' := by
      intro h' p' e' ho hz m hm h4 h5 h6
      rcases hway m hm with h1 | rfl
      · exact ho m h1 h4 h5 h6
      · exact hz h5.symm h6.symm
    refine ⟨k.rel, k.gu, k.up, k.quiet, k.epoch0, k.clk, ?_, ?_, ?_, ?_, ?_⟩
    · intro j q x hx
      simp only at hx
      have hne : ¬ (j = h ∧ q = p) := by
        rintro ⟨rfl, rfl⟩
        rw [setH_same] at hx
        simp only at hx
        rw [mget_del, if_pos rfl] at hx
        cases hx
      have hx' : mget (w.hs j).has q = some x := by
        by_cases hj : j = h
        · subst hj
          rw [setH_same] at hx
          simp only at hx
          rw [mget_del, if_neg (fun e => hne ⟨rfl, e.symm⟩)] at hx
          exact hx
        · rw [setH_other _ _ hj] at hx; exact hx
      obtain ⟨ca, a, o⟩ := k.has j q x hx'
      exact ⟨ca, a, o.seg, o.upto, o.prot, o.known, hel o.elder (fun h1 h2 => absurd ⟨h1, h2⟩ hne)⟩
    · intro j q x hx
      have hx' : mget (w.hs j).wants q = some x := by
        simp only at hx
        by_cases hj : j = h
        · subst hj; rw [setH_same] at hx; exact hx
        · rw [setH_other _ _ hj] at hx; exact hx
      obtain ⟨a, o⟩ := k.wants j q x hx'
      refine ⟨a, o.seg, fun m hm h1 h2 h3 h4 => ?_⟩
      rcases hway m hm with h5 | rfl
      · have f := o.fine m h5 h1 h2 h3 h4
        refine ⟨f.prot, fun y hy => ?_, hel f.elder (fun e1 e2 => ?_)⟩
        · simp only at hy
          by_cases hj : j = h
          · subst hj
            rw [setH_same] at hy
            simp only at hy
            rw [mget_del] at hy
            split at hy
            · cases hy
            · exact f.above y hy
          · rw [setH_other _ _ hj] at hy; exact f.above y hy
        · subst e1; subst e2; exact f.above z hg
      · exact absurd h1 (show (4 : Int) ≠ 2 by decide)
    · intro m hm h1
      rcases hway m hm with h5 | rfl
      · have := k.nums m h5 h1
        simp only
        by_cases hj : m.holder = h
        · rw [hj, setH_same]; rw [hj] at this; exact this
        · rw [setH_other _ _ hj]; exact this
      · rcases h1 with h1 | h1
        · exact absurd h1 (show (4 : Int) ≠ 1 by decide)
        · exact absurd h1 (show (4 : Int) ≠ 2 by decide)
    · intro m hm
      rcases hway m hm with h5 | rfl
      · exact k.eps m h5
      · exact zo.known
    · intro j
      simp only
      by_cases hj : j = h
      · subst hj; simp only [setH_same]; exact k.lifes j
      · simp only [setH_other _ _ hj]; exact k.lifes j
end Go.Proofs.Ytefllgpehhlkoaa
namespace Go.Proofs.Ytefllgpehhlkoaa
set_option linter.unusedVariables false
set_option linter.unusedSimpArgs false

variable {term margin : Int} {g : Ghost} {w : MW}

theorem whoL_lasting {es : Trips} (h : Rising es) (A p : Int) : whoL (lasting es A) A p = whoL es A p := by
  rw [whoL_lastg, mget_lasting A p h, whoL_lastg, lastg_lastg]
  congr 1
  omega
/-- the ghost behind a grant -/
def gGrant (g : Ghost) (p : Int) (x : Int × Int × Int) : Ghost := fun q => if p = q then some x else g q
def gLet (g : Ghost) (p : Int) : Ghost := fun q => if p = q then none else g q
theorem prot_grant (k : Inv term margin g w) {place : Int} {holder : Int} (hq : w.s.quiet ≤ w.c.N 0) (hw : ∀ x, whoL w.s.hs (w.c.N 0) place = some x → x.1 = holder) {p : Int} {h : Nat} {e u : Int} (hp : Prot g (w.c.N 0) p h e u) (he : e ≤ w.s.epoch) :
    Prot (gGrant g place (holder, w.s.epoch + 1, w.c.N 0 + term)) (w.c.N 0) p h e u := by
  rcases hp with hp | ⟨e', t, hg, h1, h2⟩
  · exact .inl hp
  · by_cases hpp : place = p
    · subst hpp
      by_cases ht : t ≤ w.c.N 0
      · exact .inl (by omega)
      · right
        have hr := k.rel place
        rw [hg] at hr
        have hm : max (w.c.N 0) w.s.quiet = w.c.N 0 := by omega
        rw [hm, lastg_yes (by show w.c.N 0 < t; omega)] at hr
        have hh := hw _ hr
        have hgu := k.gu place _ hg
        simp only at hh hgu
        refine ⟨w.s.epoch + 1, w.c.N 0 + term, ?_, by omega, by omega⟩
        unfold gGrant
        rw [if_pos rfl, hh]
    · right
      refine ⟨e', t, ?_, h1, h2⟩
      unfold gGrant
      rw [if_neg hpp]
      exact hg
theorem prot_let (k : Inv term margin g w) {m : Word} (hm : m ∈ w.way) (h4 : m.kind = 4) {u0 : Int} (hw : whoL w.s.hs (w.c.N 0) m.place = some ((m.holder : Int), m.epoch, u0)) {p : Int} {h : Nat} {e u : Int} (hp : Prot g (w.c.N 0) p h e u) (he : Elder w.way h p e) :
    Prot (gLet g m.place) (w.c.N 0) p h e u := by
  rcases hp with hp | ⟨e', t, hg, h1, h2⟩
  · exact .inl hp
  · by_cases hpp : m.place = p
    · exfalso
      subst hpp
      have hr := k.rel m.place
      rw [hw] at hr
      have := (lastg_some hr.symm).1
      rw [hg] at this
      injection this with this
      injection this with e1 this
      injection this with e2 _
      have := he m hm h4 (by omega) rfl
      omega
    · right
      refine ⟨e', t, ?_, h1, h2⟩
      unfold gLet
      rw [if_neg hpp]
      exact hg

/-- a message that promises nothing is sent -/
theorem Inv.send (k : Inv term margin g w) (x : Word) (h3 : x.kind = 3) (he : x.epoch ≤ w.s.epoch) : Inv term margin g { w with way := w.way ++ [x] } := by
  have hway : ∀ m ∈ w.way ++ [x], m ∈ w.way ∨ m = x := fun m hm => by
    rcases List.mem_append.1 hm with h | h
    · exact .inl h
    · exact .inr (List.mem_singleton.1 h)
  refine ⟨k.rel, k.gu, k.up, k.quiet, k.epoch0, k.clk, fun h p y hy => ?_, fun h p y hy => ?_, fun m hm h1 => ?_, fun m hm => ?_, k.lifes⟩
  · obtain ⟨ca, a, o⟩ := k.has h p y hy
    exact ⟨ca, a, o.seg, o.upto, o.prot, o.known, o.elder.more (by omega)⟩
  · obtain ⟨a, o⟩ := k.wants h p y hy
    refine ⟨a, o.seg, fun m hm h1 h2 h4 h5 => ?_⟩
    rcases hway m hm with hm' | rfl
    · have f := o.fine m hm' h1 h2 h4 h5
      exact ⟨f.prot, f.above, f.elder.more (by omega)⟩
    · omega
  · rcases hway m hm with hm' | rfl
    · exact k.nums m hm' h1
    · omega
  · rcases hway m hm with hm' | rfl
    · exact k.eps m hm'
    · exact he

/-- a want comes to the authority -/
theorem Inv.come1 (k : Inv term margin g w) (m : Word) (hm : m ∈ w.way) (h1 : m.kind = 1) : ∃ g', Inv term margin g' (come term margin w m) := by
  have e4 : ¬ m.kind = 4 := by omega
  have e2 : ¬ m.kind = 2 := by omega
  have e3 : ¬ m.kind = 3 := by omega
  rcases grantL_cases w.s (w.c.N 0) term m.place m.holder k.up with ⟨c, hc, e⟩ | ⟨e, hb, hq, hep, hw⟩
  · refine ⟨g, ?_⟩
    have hs : come term margin w m = { w with way := w.way ++ [⟨3, m.holder, m.place, m.num, 0⟩] } := by
      have hc0 : ¬ c = 0 := by omega
      unfold come comeS comeH answer
      simp only [if_pos h1, if_neg e2, if_neg e3, e, if_neg hc0]
    rw [hs]
    exact k.send _ rfl k.epoch0
  · refine ⟨gGrant g m.place (m.holder, w.s.epoch + 1, w.c.N 0 + term), ?_⟩
    have hs : come term margin w m = ⟨w.c, ⟨w.s.epoch + 1, w.s.quiet, mput (lasting w.s.hs (w.c.N 0)) m.place (m.holder, w.s.epoch + 1, w.c.N 0 + term)⟩, w.hs, w.way ++ [⟨2, m.holder, m.place, m.num, w.s.epoch + 1⟩], w.began⟩ := by
      unfold come comeS comeH answer
      simp only [if_pos h1, if_neg e2, if_neg e3, e, if_true]
    rw [hs]
    have hway : ∀ x ∈ w.way ++ [⟨2, m.holder, m.place, m.num, w.s.epoch + 1⟩], x ∈ w.way ∨ x = ⟨2, m.holder, m.place, m.num, w.s.epoch + 1⟩ := fun x hx => by
      rcases List.mem_append.1 hx with h | h
      · exact .inl h
      · exact .inr (List.mem_singleton.1 h)
    have hel : ∀ {h' : Nat} {p' e' : Int}, Elder w.way h' p' e' → Elder (w.way ++ [⟨2, m.holder, m.place, m.num, w.s.epoch + 1⟩]) h' p' e' := fun ho => ho.more (show (2 : Int) ≠ 4 by decide)
    have hmx : max (w.c.N 0) w.s.quiet = w.c.N 0 := by omega
    refine ⟨fun p => ?_, fun p x hx => ?_, mput_rising (lasting_rising k.up _) _ _, k.quiet, ?_, k.clk, fun h p y hy => ?_, fun h p y hy => ?_, fun x hx hk => ?_, fun x hx => ?_, k.lifes⟩
    · show whoL (mput (lasting w.s.hs (w.c.N 0)) m.place (m.holder, w.s.epoch + 1, w.c.N 0 + term)) (w.c.N 0) p = lastg (gGrant g m.place (m.holder, w.s.epoch + 1, w.c.N 0 + term) p) (max (w.c.N 0) w.s.quiet)
      rw [whoL_put, hmx]
      unfold gGrant
      by_cases hp : m.place = p
      · rw [if_pos hp, if_pos hp, if_neg (by simp only; omega), lastg_yes (by simp only; omega)]
      · rw [if_neg hp, if_neg hp, whoL_lasting k.up, k.rel p, hmx]
    · have hx' : gGrant g m.place (m.holder, w.s.epoch + 1, w.c.N 0 + term) p = some x := hx
      unfold gGrant at hx'
      by_cases hp : m.place = p
      · rw [if_pos hp] at hx'
        cases hx'
        exact Int.le_refl _
      · rw [if_neg hp] at hx'
        exact k.gu p x hx'
    · have := k.epoch0; show 0 ≤ w.s.epoch + 1; omega
    · obtain ⟨ca, a, o⟩ := k.has h p y hy
      exact ⟨ca, a, o.seg, o.upto, prot_grant k hq hw o.prot o.known, by have := o.known; show y.1 ≤ w.s.epoch + 1; omega, hel o.elder⟩
    · obtain ⟨a, o⟩ := k.wants h p y hy
      refine ⟨a, o.seg, fun x hx hk2 hh hp hn => ?_⟩
      rcases hway x hx with hx' | rfl
      · have f := o.fine x hx' hk2 hh hp hn
        exact ⟨prot_grant k hq hw f.prot (k.eps x hx'), f.above, hel f.elder⟩
      · simp only at hh hp hn
        subst hh
        subst hp
        refine ⟨.inr ⟨w.s.epoch + 1, w.c.N 0 + term, ?_, Int.le_refl _, ?_⟩, fun z hz => ?_, hel fun x hx h4 h5 h6 => ?_⟩
        · unfold gGrant; rw [if_pos rfl]
        · have := o.seg.1; show a + term ≤ w.c.N 0 + term; omega
        · obtain ⟨_, _, oz⟩ := k.has m.holder m.place z hz
          have := oz.known
          show z.1 < w.s.epoch + 1
          omega
        · have := k.eps x hx
          show x.epoch < w.s.epoch + 1
          omega
    · rcases hway x hx with hx' | rfl
      · exact k.nums x hx' hk
      · exact k.nums m hm (.inl h1)
    · rcases hway x hx with hx' | rfl
      · have := k.eps x hx'; show x.epoch ≤ w.s.epoch + 1; omega
      · exact Int.le_refl _

/-- a want is struck -/
theorem Inv.unwant (k : Inv term margin g w) (h : Nat) (p : Int) : Inv term margin g { w with hs := setH w.hs h ⟨(w.hs h).life, (w.hs h).count, mdel (w.hs h).wants p, (w.hs h).has⟩ } := by
  have hhas : ∀ j, (setH w.hs h ⟨(w.hs h).life, (w.hs h).count, mdel (w.hs h).wants p, (w.hs h).has⟩ j).has = (w.hs j).has := fun j => by
    unfold setH; split
    · rename_i e; subst e; rfl
    · rfl
  refine ⟨k.rel, k.gu, k.up, k.quiet, k.epoch0, k.clk, fun j q y hy => ?_, fun j q y hy => ?_, fun m hm h1 => ?_, k.eps, fun j => ?_⟩
  · obtain ⟨ca, a, o⟩ := k.has j q y (by rw [← hhas j]; exact hy)
    exact ⟨ca, a, o.seg, o.upto, o.prot, o.known, o.elder⟩
  · have hy' : mget (w.hs j).wants q = some y := by
      simp only at hy
      by_cases hj : j = h
      · subst hj
        rw [setH_same] at hy
        simp only at hy
        rw [mget_del] at hy
        split at hy
        · cases hy
        · exact hy
      · rw [setH_other _ _ hj] at hy; exact hy
    obtain ⟨a, o⟩ := k.wants j q y hy'
    refine ⟨a, o.seg, fun m hm h1 h2 h3 h4 => ?_⟩
    have f := o.fine m hm h1 h2 h3 h4
    exact ⟨f.prot, fun z hz => f.above z (by rw [← hhas j]; exact hz), f.elder⟩
  · have := k.nums m hm h1
    simp only
    by_cases hj : m.holder = h
    · rw [hj, setH_same]; rw [hj] at this; exact this
    · rw [setH_other _ _ hj]; exact this
  · simp only
    by_cases hj : j = h
    · subst hj; simp only [setH_same]; exact k.lifes j
    · simp only [setH_other _ _ hj]; exact k.lifes j
theorem setH_id (f : Nat → HS) (h : Nat) : setH f h (f h) = f := by funext j; unfold setH; split <;> simp_all
theorem setH_setH (f : Nat → HS) (h : Nat) (x y : HS) : setH (setH f h x) h y = setH f h y := by funext j; unfold setH; split <;> rfl

/-- a place is believed in from now on -/
theorem Inv.believing (k : Inv term margin g w) (h : Nat) (p e u ca a : Int) (hw : mget (w.hs h).wants p = none) (o : HasOk term margin g w h p (e, u) ca a) :
    Inv term margin g { w with hs := setH w.hs h ⟨(w.hs h).life, (w.hs h).count, (w.hs h).wants, mput (w.hs h).has p (e, u)⟩ } := by
  refine ⟨k.rel, k.gu, k.up, k.quiet, k.epoch0, k.clk, fun j q y hy => ?_, fun j q y hy => ?_, fun m hm h1 => ?_, k.eps, fun j => ?_⟩
  · simp only at hy
    by_cases hj : j = h
    · subst hj
      rw [setH_same] at hy
      simp only at hy
      rw [mget_put] at hy
      by_cases hq : p = q
      · rw [if_pos hq] at hy
        cases hy
        subst hq
        exact ⟨ca, a, o.seg, o.upto, o.prot, o.known, o.elder⟩
      · rw [if_neg hq] at hy
        obtain ⟨ca', a', o'⟩ := k.has j q y hy
        exact ⟨ca', a', o'.seg, o'.upto, o'.prot, o'.known, o'.elder⟩
    · rw [setH_other _ _ hj] at hy
      obtain ⟨ca', a', o'⟩ := k.has j q y hy
      exact ⟨ca', a', o'.seg, o'.upto, o'.prot, o'.known, o'.elder⟩
  · have hy' : mget (w.hs j).wants q = some y := by
      simp only at hy
      by_cases hj : j = h
      · subst hj; rw [setH_same] at hy; exact hy
      · rw [setH_other _ _ hj] at hy; exact hy
    obtain ⟨a', o'⟩ := k.wants j q y hy'
    refine ⟨a', o'.seg, fun m hm h1 h2 h3 h4 => ?_⟩
    have f := o'.fine m hm h1 h2 h3 h4
    refine ⟨f.prot, fun z hz => ?_, f.elder⟩
    simp only at hz
    by_cases hj : j = h
    · subst hj
      rw [setH_same] at hz
      simp only at hz
      rw [mget_put] at hz
      by_cases hq : p = q
      · subst hq; rw [hw] at hy'; cases hy'
      · rw [if_neg hq] at hz; exact f.above z hz
    · rw [setH_other _ _ hj] at hz; exact f.above z hz
  · have := k.nums m hm h1
    simp only
    by_cases hj : m.holder = h
    · rw [hj, setH_same]; rw [hj] at this; exact this
    · rw [setH_other _ _ hj]; exact this
  · simp only
    by_cases hj : j = h
    · subst hj; simp only [setH_same]; exact k.lifes j
    · simp only [setH_other _ _ hj]; exact k.lifes j

/-- an answer comes to a holder -/
theorem Inv.come2 (k : Inv term margin g w) (m : Word) (hm : m ∈ w.way) (h2 : m.kind = 2) : Inv term margin g { w with hs := setH w.hs m.holder (grantH (w.hs m.holder) (w.c.N m.holder) term margin m.place m.num m.epoch).1 } := by
  unfold grantH
  cases hg : mget (w.hs m.holder).wants m.place with
  | none => dsimp only; rw [setH_id]; exact k
  | some x =>
    dsimp only
    by_cases hx : x.1 = m.num
    case neg => rw [if_neg hx]; dsimp only; rw [setH_id]; exact k
    rw [if_pos hx]
    by_cases hb : term < 1 ∨ 1048576 < term ∨ margin < 0 ∨ 1048576 < margin ∨ w.c.N m.holder < 0 ∨ 1099511627776 < w.c.N m.holder ∨ x.2 < 0 ∨ 1099511627776 < x.2
    · rw [if_pos hb]; dsimp only; rw [setH_id]; exact k
    rw [if_neg hb]
    by_cases hu : x.2 + term - margin ≤ w.c.N m.holder
    · rw [if_pos hu]; exact k.unwant m.holder m.place
    rw [if_neg hu]
    obtain ⟨a, o⟩ := k.wants m.holder m.place x hg
    have f := o.fine m hm h2 rfl rfl hx.symm
    have hU : until' (w.hs m.holder).has m.place m.epoch (x.2 + term - margin) = x.2 + term - margin := by
      unfold until'
      cases hy : mget (w.hs m.holder).has m.place with
      | none => rfl
      | some y => dsimp only; rw [if_neg (by have := f.above y hy; omega)]
    rw [hU]
    have k1 := k.unwant m.holder m.place
    have k2 := k1.believing m.holder m.place m.epoch (x.2 + term - margin) x.2 a (by simp only [setH_same]; rw [mget_del, if_pos rfl]) ⟨o.seg, Int.le_refl _, f.prot, k.eps m hm, f.elder⟩
    simp only [setH_same, setH_setH] at k2
    exact k2
theorem Inv.come3 (k : Inv term margin g w) (m : Word) : Inv term margin g { w with hs := setH w.hs m.holder (denyH (w.hs m.holder) m.place m.num).1 } := by
  unfold denyH
  cases hg : mget (w.hs m.holder).wants m.place with
  | none => dsimp only; rw [setH_id]; exact k
  | some x =>
    dsimp only
    by_cases hx : x.1 = m.num
    · rw [if_pos hx]; exact k.unwant m.holder m.place
    · rw [if_neg hx]; dsimp only; rw [setH_id]; exact k
/-- a place is given back to the authority -/
theorem Inv.come4 (k : Inv term margin g w) (m : Word) (hm : m ∈ w.way) (h4 : m.kind = 4) : ∃ g', Inv term margin g' { w with s := (letL w.s (w.c.N 0) m.place m.holder m.epoch).1 } := by
  rcases letL_cases w.s (w.c.N 0) m.place m.holder m.epoch with ⟨c, hc, e⟩ | ⟨e, u0, hw⟩
  · refine ⟨g, ?_⟩
    rw [e]
    exact k
  · refine ⟨gLet g m.place, ?_⟩
    rw [e]
    refine ⟨fun p => ?_, fun p x hx => ?_, List.Pairwise.filter _ (lasting_rising k.up _), k.quiet, k.epoch0, k.clk, fun h p y hy => ?_, fun h p y hy => ?_, k.nums, k.eps, k.lifes⟩
    · show whoL (mdel (lasting w.s.hs (w.c.N 0)) m.place) (w.c.N 0) p = lastg (gLet g m.place p) (max (w.c.N 0) w.s.quiet)
      rw [whoL_del]
      unfold gLet
      by_cases hp : m.place = p
      · rw [if_pos hp, if_pos hp]; rfl
      · rw [if_neg hp, if_neg hp, whoL_lasting k.up, k.rel p]
    · have hx' : gLet g m.place p = some x := hx
      unfold gLet at hx'
      split at hx'
      · cases hx'
      · exact k.gu p x hx'
    · obtain ⟨ca, a, o⟩ := k.has h p y hy
      exact ⟨ca, a, o.seg, o.upto, prot_let k hm h4 hw o.prot o.elder, o.known, o.elder⟩
    · obtain ⟨a, o⟩ := k.wants h p y hy
      refine ⟨a, o.seg, fun x hx hk2 hh hp hn => ?_⟩
      have f := o.fine x hx hk2 hh hp hn
      exact ⟨prot_let k hm h4 hw f.prot f.elder, f.above, f.elder⟩

theorem Inv.arrive (k : Inv term margin g w) (m : Word) (hm : m ∈ w.way) : ∃ g', Inv term margin g' (come term margin w m) := by
  by_cases h1 : m.kind = 1
  · exact k.come1 m hm h1
  by_cases h2 : m.kind = 2
  · refine ⟨g, ?_⟩
    have e : Go.Proofs.Ytefllgpehhlkoaa.come term margin w m = { w with hs := setH w.hs m.holder (grantH (w.hs m.holder) (w.c.N m.holder) term margin m.place m.num m.epoch).1 } := by
      unfold Go.Proofs.Ytefllgpehhlkoaa.come comeS comeH
      simp only [if_neg h1, if_pos h2, if_neg (show ¬ m.kind = 4 by omega)]
    rw [e]
    exact k.come2 m hm h2
  by_cases h3 : m.kind = 3
  · refine ⟨g, ?_⟩
    have e : Go.Proofs.Ytefllgpehhlkoaa.come term margin w m = { w with hs := setH w.hs m.holder (denyH (w.hs m.holder) m.place m.num).1 } := by
      unfold Go.Proofs.Ytefllgpehhlkoaa.come comeS comeH
      simp only [if_neg h1, if_neg h2, if_pos h3, if_neg (show ¬ m.kind = 4 by omega)]
    rw [e]
    exact k.come3 m
  by_cases h4 : m.kind = 4
  · have e : Go.Proofs.Ytefllgpehhlkoaa.come term margin w m = { w with s := (letL w.s (w.c.N 0) m.place m.holder m.epoch).1 } := by
      unfold Go.Proofs.Ytefllgpehhlkoaa.come comeS comeH
      simp only [if_neg h1, if_neg h2, if_neg h3, if_pos h4]
    rw [e]
    exact k.come4 m hm h4
  · refine ⟨g, ?_⟩
    have e : Go.Proofs.Ytefllgpehhlkoaa.come term margin w m = w := by
      unfold Go.Proofs.Ytefllgpehhlkoaa.come comeS comeH
      simp only [if_neg h1, if_neg h2, if_neg h3, if_neg h4]
    rw [e]
    exact k
/-- it comes, and some are gone -/
theorem Inv.arrives (k : Inv term margin g w) (m : Word) (hm : m ∈ w.way) {way' : List Word} (hs : ∀ x ∈ way', x ∈ w.way) : ∃ g', Inv term margin g' (come term margin { w with way := way' } m) := by
  obtain ⟨g', k'⟩ := k.arrive m hm
  refine ⟨g', ?_⟩
  have h := k'.less (way' := (Go.Proofs.Ytefllgpehhlkoaa.come term margin { w with way := way' } m).way) (fun x hx => by
    have hx' : x ∈ (if m.kind = 1 then way' ++ [answer term w m] else way') := hx
    show x ∈ (if m.kind = 1 then w.way ++ [answer term w m] else w.way)
    by_cases h1 : m.kind = 1
    · rw [if_pos h1] at hx' ⊢
      rcases List.mem_append.1 hx' with h | h
      · exact List.mem_append_left _ (hs x h)
      · exact List.mem_append_right _ h
    · rw [if_neg h1] at hx' ⊢
      exact hs x hx')
  exact h

/-- EVERY MOVE. -/
theorem Inv.next (k : Inv term margin g w) (kind i place : Int) (hA : 0 ≤ w.c.N 0) (hA2 : w.c.N 0 ≤ 1099511627776) (ht : 1 ≤ term) (ht2 : term ≤ 1048576) : ∃ g', Inv term margin g' (nextM term margin w kind i place) := by
  unfold nextM
  by_cases h0 : kind = 0
  · rw [if_pos h0]; exact ⟨g, k.tick _⟩
  rw [if_neg h0]
  by_cases h1 : kind = 1
  · rw [if_pos h1]
    have := k.ask (1 + (i % 3).toNat) (place % 2) (decide (w.way.length < 200))
    simp only [decide_eq_true_eq] at this
    exact ⟨g, this⟩
  rw [if_neg h1]
  by_cases h2 : kind = 2 ∨ kind = 3 ∨ kind = 4
  · rw [if_pos h2]
    by_cases hl : w.way.length = 0
    · rw [if_pos hl]; exact ⟨g, k⟩
    rw [if_neg hl]
    dsimp only
    have hj : (i % (w.way.length : Int)).toNat < w.way.length := by
      have a1 := Int.emod_nonneg i (show (w.way.length : Int) ≠ 0 by omega)
      have a2 := Int.emod_lt_of_pos i (show 0 < (w.way.length : Int) by omega)
      omega
    generalize (i % (w.way.length : Int)).toNat = j at hj ⊢
    have hx : w.way.getD j w0 ∈ w.way := by
      rw [List.getD_eq_getElem?_getD, List.getElem?_eq_getElem hj]
      exact List.getElem_mem hj
    have hsub : ∀ x ∈ w.way.eraseIdx j, x ∈ w.way := fun x hx => List.mem_of_mem_eraseIdx hx
    by_cases h3 : kind = 3
    · simp only [if_pos h3]
      split
      · exact k.arrive _ hx
      · exact ⟨g, k⟩
    · simp only [if_neg h3]
      split
      · exact k.arrives _ hx hsub
      · exact ⟨g, k.less hsub⟩
  rw [if_neg h2]
  by_cases h5 : kind = 5
  · rw [if_pos h5]
    have := k.letting (1 + (i % 3).toNat) (place % 2) (decide (w.way.length < 200))
    simp only [decide_eq_true_eq] at this
    exact ⟨g, this⟩
  rw [if_neg h5]
  by_cases h6 : kind = 6
  · rw [if_pos h6]; exact ⟨g, k.crash _⟩
  rw [if_neg h6]
  by_cases h7 : kind = 7
  · rw [if_pos h7]; exact ⟨g, k.restart hA hA2 ht ht2⟩
  rw [if_neg h7]
  exact ⟨g, k⟩

/-- nobody at the beginning -/
def mw0 : MW := ⟨St.zero, ⟨0, 0, []⟩, fun _ => ⟨0, 0, [], []⟩, [], false⟩
theorem inv_zero (ht : 1 ≤ term) : Inv term margin (fun _ => none) mw0 where
  rel p := rfl
  gu p x hx := by cases hx
  up := List.Pairwise.nil
  quiet _ := rfl
  epoch0 := Int.le_refl _
  clk j := by simp [mw0, St.zero]
  has h p x hx := by cases hx
  wants h p x hx := by cases hx
  nums m hm := by cases hm
  eps m hm := by cases hm
  lifes h := by simp [mw0]

/-- who believes: the authority knows it, or has begun anew; and it is one -/
theorem Inv.believer (k : Inv term margin g w) (hA : 0 ≤ w.c.N 0) {h : Nat} (hd : w.c.drift h ≤ margin) {p e : Int} (hb : believe (w.hs h).has (w.c.N h) p = (e, true)) :
    e ≤ w.s.epoch ∧ ∃ e' t, g p = some ((h : Int), e', t) ∧ e ≤ e' ∧ (w.began = false → whoL w.s.hs (w.c.N 0) p = some ((h : Int), e', t)) := by
  unfold believe at hb
  cases hg : mget (w.hs h).has p with
  | none => rw [hg] at hb; cases hb
  | some x =>
    rw [hg] at hb
    dsimp only at hb
    by_cases hx : x.2 ≤ w.c.N h
    · rw [if_pos hx] at hb; cases hb
    rw [if_neg hx] at hb
    injection hb with hb _
    subst hb
    obtain ⟨ca, a, o⟩ := k.has h p x hg
    have h1 := o.seg
    have h2 := k.clk h
    have h3 := o.upto
    unfold Seg at h1
    unfold St.drift at hd
    refine ⟨o.known, ?_⟩
    rcases o.prot with hp | ⟨e', t, hg', h4, h5⟩
    · omega
    · refine ⟨e', t, hg', h4, fun hbeg => ?_⟩
      have hq := k.quiet hbeg
      rw [k.rel p, hg', hq]
      exact lastg_yes (by show max (w.c.N 0) 0 < t; omega)
theorem Inv.one (k : Inv term margin g w) (hA : 0 ≤ w.c.N 0) {h h' : Nat} (hd : w.c.drift h ≤ margin) (hd' : w.c.drift h' ≤ margin) {p e e' : Int} (hb : believe (w.hs h).has (w.c.N h) p = (e, true)) (hb' : believe (w.hs h').has (w.c.N h') p = (e', true)) : h = h' := by
  obtain ⟨_, a, t, h1, _⟩ := k.believer hA hd hb
  obtain ⟨_, a', t', h2, _⟩ := k.believer hA hd' hb'
  rw [h1] at h2
  injection h2 with h2
  injection h2 with h2 _
  omega
end Go.Proofs.Ytefllgpehhlkoaa
namespace Go.Proofs.Ytefllgpehhlkoaa
open Go.RowKit Go.Maps
set_option linter.unusedVariables false
set_option linter.unusedSimpArgs false

theorem emod_of_tmod (i n : Int) (hn : 0 < n) : i % n = if i.tmod n < 0 then i.tmod n + n else i.tmod n := by
  have h1 := Int.emod_nonneg i (show n ≠ 0 by omega)
  have h2 := Int.emod_lt_of_pos i hn
  have h3 := Int.tmod_eq_emod (a := i) (b := n)
  by_cases h : 0 ≤ i ∨ n ∣ i
  · rw [if_pos h] at h3
    rw [if_neg (by omega)]
    omega
  · rw [if_neg h] at h3
    have hz : i % n ≠ 0 := fun e => h (.inr (Int.dvd_of_emod_eq_zero e))
    rw [if_pos (by omega)]
    omega
theorem tmod_bd (i n : Int) (hn : 0 < n) : -n < i.tmod n ∧ i.tmod n < n := by
  have h1 := Int.emod_nonneg i (show n ≠ 0 by omega)
  have h2 := Int.emod_lt_of_pos i hn
  have h3 := Int.tmod_eq_emod (a := i) (b := n)
  by_cases h : 0 ≤ i ∨ n ∣ i
  · rw [if_pos h] at h3; omega
  · rw [if_neg h] at h3
    have hz : i % n ≠ 0 := fun e => h (.inr (Int.dvd_of_emod_eq_zero e))
    omega
set_option maxHeartbeats 400000 in
theorem at_any (w : World) (i n : Int) (hn : 0 < n) (hn2 : n ≤ 1000000) : Calls Try.prog 64 #[.int .i64 i, .int .i64 n] w fun e w' => e = .returned (.int .i64 (i % n)) ∧ w = w' := by
  have he := Lib.hid (emod_of_tmod i n hn)
  obtain ⟨h1, h2⟩ := tmod_bd i n hn
  have hz : (n == 0) = false := by simp; omega
  by_cases hneg : i.tmod n < 0
  · have e : i % n = i.tmod n + n := by rw [he.out, if_pos hneg]
    rw [e]
    clear e
    go_enter Try.func64, Try.ntmps64
    go_wp2_with fail
    go_ret
    exact ⟨rfl, rfl⟩
  · have e : i % n = i.tmod n := by rw [he.out, if_neg hneg]
    rw [e]
    clear e
    go_enter Try.func64, Try.ntmps64
    go_wp2_with fail
    go_ret
    exact ⟨rfl, rfl⟩
end Go.Proofs.Ytefllgpehhlkoaa
namespace Go.Proofs.Ytefllgpehhlkoaa
open Go.RowKit Go.Maps
set_option linter.unusedVariables false
set_option linter.unusedSimpArgs false

/-- block b is just these cells -/
def Whole (w : World) (b : Nat) (t : TypeId) (cs : Array Value) : Prop := w.heap[b]? = some (.cells cs t)
section
variable {w w' : World} {b : Nat} {t : TypeId} {cs : Array Value}
theorem Whole.lt (h : Whole w b t cs) : b < w.heap.size := (Array.getElem?_eq_some_iff.1 h).1
theorem Whole.cell (h : Whole w b t cs) (i : Nat) : w.cell? ⟨b, i, none⟩ = cs[i]? := by unfold Whole at h; simp [World.cell?, h]
theorem Whole.frozen (h : Whole w b t cs) (i : Nat) : w.frozen? ⟨b, i, none⟩ = false := by unfold Whole at h; simp [World.frozen?, h]
theorem Whole.kept {lo hi : Nat} (h : Whole w b t cs) (o : Only lo hi w w') (hs : b < lo ∨ hi ≤ b) : Whole w' b t cs := (o.block b h.lt hs).trans h
theorem Whole.out (h : Whole w b t cs) (o : Only w.heap.size w.heap.size w w') : Whole w' b t cs := h.kept o (.inl h.lt)
theorem Whole.set (h : Whole w b t cs) (i : Nat) (u : Value) : Whole (w.setCell ⟨b, i, none⟩ u) b t (cs.setIfInBounds i u) := by
  unfold Whole at h ⊢
  simp [World.setCell, Array.getElem?_modify, h]
theorem Whole.far (h : Whole w b t cs) {p : Addr} (hp : b ≠ p.block) (u : Value) : Whole (w.setCell p u) b t cs := (Below.heap_setCell w p u b hp).trans h
theorem Whole.new (w : World) (t : TypeId) (cs : Array Value) (k : Nat) (hk : k = w.heap.size) : Whole (w.alloc (.cells cs t)) k t cs := top_at w _ _ hk
theorem Whole.drew (h : Whole w b t cs) : Whole w.drew b t cs := h
end
/-- twenty-four cells, one after the other -/
def World.put24 (w : World) (b : Nat) (y0 y1 y2 y3 y4 y5 y6 y7 y8 y9 y10 y11 y12 y13 y14 y15 y16 y17 y18 y19 y20 y21 y22 y23 : Value) : World := (((((((((((((((((((((((w.setCell ⟨b, 0, none⟩ y0).setCell ⟨b, 1, none⟩ y1).setCell ⟨b, 2, none⟩ y2).setCell ⟨b, 3, none⟩ y3).setCell ⟨b, 4, none⟩ y4).setCell ⟨b, 5, none⟩ y5).setCell ⟨b, 6, none⟩ y6).setCell ⟨b, 7, none⟩ y7).setCell ⟨b, 8, none⟩ y8).setCell ⟨b, 9, none⟩ y9).setCell ⟨b, 10, none⟩ y10).setCell ⟨b, 11, none⟩ y11).setCell ⟨b, 12, none⟩ y12).setCell ⟨b, 13, none⟩ y13).setCell ⟨b, 14, none⟩ y14).setCell ⟨b, 15, none⟩ y15).setCell ⟨b, 16, none⟩ y16).setCell ⟨b, 17, none⟩ y17).setCell ⟨b, 18, none⟩ y18).setCell ⟨b, 19, none⟩ y19).setCell ⟨b, 20, none⟩ y20).setCell ⟨b, 21, none⟩ y21).setCell ⟨b, 22, none⟩ y22).setCell ⟨b, 23, none⟩ y23
theorem put24_only (w : World) (b : Nat) (y0 y1 y2 y3 y4 y5 y6 y7 y8 y9 y10 y11 y12 y13 y14 y15 y16 y17 y18 y19 y20 y21 y22 y23 : Value) : Only b (b + 1) w (World.put24 w b y0 y1 y2 y3 y4 y5 y6 y7 y8 y9 y10 y11 y12 y13 y14 y15 y16 y17 y18 y19 y20 y21 y22 y23) := by
  have o0 : Only b (b + 1) w w := Only.refl _ _ _
  have o1 : Only b (b + 1) w (w.setCell ⟨b, 0, none⟩ y0) := o0.setCell (p := ⟨b, 0, none⟩) (.inr ⟨Nat.le_refl _, Nat.lt_succ_self _⟩) y0
  have o2 : Only b (b + 1) w ((w.setCell ⟨b, 0, none⟩ y0).setCell ⟨b, 1, none⟩ y1) := o1.setCell (p := ⟨b, 1, none⟩) (.inr ⟨Nat.le_refl _, Nat.lt_succ_self _⟩) y1
  have o3 : Only b (b + 1) w (((w.setCell ⟨b, 0, none⟩ y0).setCell ⟨b, 1, none⟩ y1).setCell ⟨b, 2, none⟩ y2) := o2.setCell (p := ⟨b, 2, none⟩) (.inr ⟨Nat.le_refl _, Nat.lt_succ_self _⟩) y2
  have o4 : Only b (b + 1) w ((((w.setCell ⟨b, 0, none⟩ y0).setCell ⟨b, 1, none⟩ y1).setCell ⟨b, 2, none⟩ y2).setCell ⟨b, 3, none⟩ y3) := o3.setCell (p := ⟨b, 3, none⟩) (.inr ⟨Nat.le_refl _, Nat.lt_succ_self _⟩) y3
  have o5 : Only b (b + 1) w (((((w.setCell ⟨b, 0, none⟩ y0).setCell ⟨b, 1, none⟩ y1).setCell ⟨b, 2, none⟩ y2).setCell ⟨b, 3, none⟩ y3).setCell ⟨b, 4, none⟩ y4) := o4.setCell (p := ⟨b, 4, none⟩) (.inr ⟨Nat.le_refl _, Nat.lt_succ_self _⟩) y4
  have o6 : Only b (b + 1) w ((((((w.setCell ⟨b, 0, none⟩ y0).setCell ⟨b, 1, none⟩ y1).setCell ⟨b, 2, none⟩ y2).setCell ⟨b, 3, none⟩ y3).setCell ⟨b, 4, none⟩ y4).setCell ⟨b, 5, none⟩ y5) := o5.setCell (p := ⟨b, 5, none⟩) (.inr ⟨Nat.le_refl _, Nat.lt_succ_self _⟩) y5
  have o7 : Only b (b + 1) w (((((((w.setCell ⟨b, 0, none⟩ y0).setCell ⟨b, 1, none⟩ y1).setCell ⟨b, 2, none⟩ y2).setCell ⟨b, 3, none⟩ y3).setCell ⟨b, 4, none⟩ y4).setCell ⟨b, 5, none⟩ y5).setCell ⟨b, 6, none⟩ y6) := o6.setCell (p := ⟨b, 6, none⟩) (.inr ⟨Nat.le_refl _, Nat.lt_succ_self _⟩) y6
  have o8 : Only b (b + 1) w ((((((((w.setCell ⟨b, 0, none⟩ y0).setCell ⟨b, 1, none⟩ y1).setCell ⟨b, 2, none⟩ y2).setCell ⟨b, 3, none⟩ y3).setCell ⟨b, 4, none⟩ y4).setCell ⟨b, 5, none⟩ y5).setCell ⟨b, 6, none⟩ y6).setCell ⟨b, 7, none⟩ y7) := o7.setCell (p := ⟨b, 7, none⟩) (.inr ⟨Nat.le_refl _, Nat.lt_succ_self _⟩) y7
  have o9 : Only b (b + 1) w (((((((((w.setCell ⟨b, 0, none⟩ y0).setCell ⟨b, 1, none⟩ y1).setCell ⟨b, 2, none⟩ y2).setCell ⟨b, 3, none⟩ y3).setCell ⟨b, 4, none⟩ y4).setCell ⟨b, 5, none⟩ y5).setCell ⟨b, 6, none⟩ y6).setCell ⟨b, 7, none⟩ y7).setCell ⟨b, 8, none⟩ y8) := o8.setCell (p := ⟨b, 8, none⟩) (.inr ⟨Nat.le_refl _, Nat.lt_succ_self _⟩) y8
  have o10 : Only b (b + 1) w ((((((((((w.setCell ⟨b, 0, none⟩ y0).setCell ⟨b, 1, none⟩ y1).setCell ⟨b, 2, none⟩ y2).setCell ⟨b, 3, none⟩ y3).setCell ⟨b, 4, none⟩ y4).setCell ⟨b, 5, none⟩ y5).setCell ⟨b, 6, none⟩ y6).setCell ⟨b, 7, none⟩ y7).setCell ⟨b, 8, none⟩ y8).setCell ⟨b, 9, none⟩ y9) := o9.setCell (p := ⟨b, 9, none⟩) (.inr ⟨Nat.le_refl _, Nat.lt_succ_self _⟩) y9
  have o11 : Only b (b + 1) w (((((((((((w.setCell ⟨b, 0, none⟩ y0).setCell ⟨b, 1, none⟩ y1).setCell ⟨b, 2, none⟩ y2).setCell ⟨b, 3, none⟩ y3).setCell ⟨b, 4, none⟩ y4).setCell ⟨b, 5, none⟩ y5).setCell ⟨b, 6, none⟩ y6).setCell ⟨b, 7, none⟩ y7).setCell ⟨b, 8, none⟩ y8).setCell ⟨b, 9, none⟩ y9).setCell ⟨b, 10, none⟩ y10) := o10.setCell (p := ⟨b, 10, none⟩) (.inr ⟨Nat.le_refl _, Nat.lt_succ_self _⟩) y10
  have o12 : Only b (b + 1) w ((((((((((((w.setCell ⟨b, 0, none⟩ y0).setCell ⟨b, 1, none⟩ y1).setCell ⟨b, 2, none⟩ y2).setCell ⟨b, 3, none⟩ y3).setCell ⟨b, 4, none⟩ y4).setCell ⟨b, 5, none⟩ y5).setCell ⟨b, 6, none⟩ y6).setCell ⟨b, 7, none⟩ y7).setCell ⟨b, 8, none⟩ y8).setCell ⟨b, 9, none⟩ y9).setCell ⟨b, 10, none⟩ y10).setCell ⟨b, 11, none⟩ y11) := o11.setCell (p := ⟨b, 11, none⟩) (.inr ⟨Nat.le_refl _, Nat.lt_succ_self _⟩) y11
  have o13 : Only b (b + 1) w (((((((((((((w.setCell ⟨b, 0, none⟩ y0).setCell ⟨b, 1, none⟩ y1).setCell ⟨b, 2, none⟩ y2).setCell ⟨b, 3, none⟩ y3).setCell ⟨b, 4, none⟩ y4).setCell ⟨b, 5, none⟩ y5).setCell ⟨b, 6, none⟩ y6).setCell ⟨b, 7, none⟩ y7).setCell ⟨b, 8, none⟩ y8).setCell ⟨b, 9, none⟩ y9).setCell ⟨b, 10, none⟩ y10).setCell ⟨b, 11, none⟩ y11).setCell ⟨b, 12, none⟩ y12) := o12.setCell (p := ⟨b, 12, none⟩) (.inr ⟨Nat.le_refl _, Nat.lt_succ_self _⟩) y12
  have o14 : Only b (b + 1) w ((((((((((((((w.setCell ⟨b, 0, none⟩ y0).setCell ⟨b, 1, none⟩ y1).setCell ⟨b, 2, none⟩ y2).setCell ⟨b, 3, none⟩ y3).setCell ⟨b, 4, none⟩ y4).setCell ⟨b, 5, none⟩ y5).setCell ⟨b, 6, none⟩ y6).setCell ⟨b, 7, none⟩ y7).setCell ⟨b, 8, none⟩ y8).setCell ⟨b, 9, none⟩ y9).setCell ⟨b, 10, none⟩ y10).setCell ⟨b, 11, none⟩ y11).setCell ⟨b, 12, none⟩ y12).setCell ⟨b, 13, none⟩ y13) := o13.setCell (p := ⟨b, 13, none⟩) (.inr ⟨Nat.le_refl _, Nat.lt_succ_self _⟩) y13
  have o15 : Only b (b + 1) w (((((((((((((((w.setCell ⟨b, 0, none⟩ y0).setCell ⟨b, 1, none⟩ y1).setCell ⟨b, 2, none⟩ y2).setCell ⟨b, 3, none⟩ y3).setCell ⟨b, 4, none⟩ y4).setCell ⟨b, 5, none⟩ y5).setCell ⟨b, 6, none⟩ y6).setCell ⟨b, 7, none⟩ y7).setCell ⟨b, 8, none⟩ y8).setCell ⟨b, 9, none⟩ y9).setCell ⟨b, 10, none⟩ y10).setCell ⟨b, 11, none⟩ y11).setCell ⟨b, 12, none⟩ y12).setCell ⟨b, 13, none⟩ y13).setCell ⟨b, 14, none⟩ y14) := o14.setCell (p := ⟨b, 14, none⟩) (.inr ⟨Nat.le_refl _, Nat.lt_succ_self _⟩) y14
  have o16 : Only b (b + 1) w ((((((((((((((((w.setCell ⟨b, 0, none⟩ y0).setCell ⟨b, 1, none⟩ y1).setCell ⟨b, 2, none⟩ y2).setCell ⟨b, 3, none⟩ y3).setCell ⟨b, 4, none⟩ y4).setCell ⟨b, 5, none⟩ y5).setCell ⟨b, 6, none⟩ y6).setCell ⟨b, 7, none⟩ y7).setCell ⟨b, 8, none⟩ y8).setCell ⟨b, 9, none⟩ y9).setCell ⟨b, 10, none⟩ y10).setCell ⟨b, 11, none⟩ y11).setCell ⟨b, 12, none⟩ y12).setCell ⟨b, 13, none⟩ y13).setCell ⟨b, 14, none⟩ y14).setCell ⟨b, 15, none⟩ y15) := o15.setCell (p := ⟨b, 15, none⟩) (.inr ⟨Nat.le_refl _, Nat.lt_succ_self _⟩) y15
  have o17 : Only b (b + 1) w (((((((((((((((((w.setCell ⟨b, 0, none⟩ y0).setCell ⟨b, 1, none⟩ y1).setCell ⟨b, 2, none⟩ y2).setCell ⟨b, 3, none⟩ y3).setCell ⟨b, 4, none⟩ y4).setCell ⟨b, 5, none⟩ y5).setCell ⟨b, 6, none⟩ y6).setCell ⟨b, 7, none⟩ y7).setCell ⟨b, 8, none⟩ y8).setCell ⟨b, 9, none⟩ y9).setCell ⟨b, 10, none⟩ y10).setCell ⟨b, 11, none⟩ y11).setCell ⟨b, 12, none⟩ y12).setCell ⟨b, 13, none⟩ y13).setCell ⟨b, 14, none⟩ y14).setCell ⟨b, 15, none⟩ y15).setCell ⟨b, 16, none⟩ y16) := o16.setCell (p := ⟨b, 16, none⟩) (.inr ⟨Nat.le_refl _, Nat.lt_succ_self _⟩) y16
  have o18 : Only b (b + 1) w ((((((((((((((((((w.setCell ⟨b, 0, none⟩ y0).setCell ⟨b, 1, none⟩ y1).setCell ⟨b, 2, none⟩ y2).setCell ⟨b, 3, none⟩ y3).setCell ⟨b, 4, none⟩ y4).setCell ⟨b, 5, none⟩ y5).setCell ⟨b, 6, none⟩ y6).setCell ⟨b, 7, none⟩ y7).setCell ⟨b, 8, none⟩ y8).setCell ⟨b, 9, none⟩ y9).setCell ⟨b, 10, none⟩ y10).setCell ⟨b, 11, none⟩ y11).setCell ⟨b, 12, none⟩ y12).setCell ⟨b, 13, none⟩ y13).setCell ⟨b, 14, none⟩ y14).setCell ⟨b, 15, none⟩ y15).setCell ⟨b, 16, none⟩ y16).setCell ⟨b, 17, none⟩ y17) := o17.setCell (p := ⟨b, 17, none⟩) (.inr ⟨Nat.le_refl _, Nat.lt_succ_self _⟩) y17
  have o19 : Only b (b + 1) w (((((((((((((((((((w.setCell ⟨b, 0, none⟩ y0).setCell ⟨b, 1, none⟩ y1).setCell ⟨b, 2, none⟩ y2).setCell ⟨b, 3, none⟩ y3).setCell ⟨b, 4, none⟩ y4).setCell ⟨b, 5, none⟩ y5).setCell ⟨b, 6, none⟩ y6).setCell ⟨b, 7, none⟩ y7).setCell ⟨b, 8, none⟩ y8).setCell ⟨b, 9, none⟩ y9).setCell ⟨b, 10, none⟩ y10).setCell ⟨b, 11, none⟩ y11).setCell ⟨b, 12, none⟩ y12).setCell ⟨b, 13, none⟩ y13).setCell ⟨b, 14, none⟩ y14).setCell ⟨b, 15, none⟩ y15).setCell ⟨b, 16, none⟩ y16).setCell ⟨b, 17, none⟩ y17).setCell ⟨b, 18, none⟩ y18) := o18.setCell (p := ⟨b, 18, none⟩) (.inr ⟨Nat.le_refl _, Nat.lt_succ_self _⟩) y18
  have o20 : Only b (b + 1) w ((((((((((((((((((((w.setCell ⟨b, 0, none⟩ y0).setCell ⟨b, 1, none⟩ y1).setCell ⟨b, 2, none⟩ y2).setCell ⟨b, 3, none⟩ y3).setCell ⟨b, 4, none⟩ y4).setCell ⟨b, 5, none⟩ y5).setCell ⟨b, 6, none⟩ y6).setCell ⟨b, 7, none⟩ y7).setCell ⟨b, 8, none⟩ y8).setCell ⟨b, 9, none⟩ y9).setCell ⟨b, 10, none⟩ y10).setCell ⟨b, 11, none⟩ y11).setCell ⟨b, 12, none⟩ y12).setCell ⟨b, 13, none⟩ y13).setCell ⟨b, 14, none⟩ y14).setCell ⟨b, 15, none⟩ y15).setCell ⟨b, 16, none⟩ y16).setCell ⟨b, 17, none⟩ y17).setCell ⟨b, 18, none⟩ y18).setCell ⟨b, 19, none⟩ y19) := o19.setCell (p := ⟨b, 19, none⟩) (.inr ⟨Nat.le_refl _, Nat.lt_succ_self _⟩) y19
  have o21 : Only b (b + 1) w (((((((((((((((((((((w.setCell ⟨b, 0, none⟩ y0).setCell ⟨b, 1, none⟩ y1).setCell ⟨b, 2, none⟩ y2).setCell ⟨b, 3, none⟩ y3).setCell ⟨b, 4, none⟩ y4).setCell ⟨b, 5, none⟩ y5).setCell ⟨b, 6, none⟩ y6).setCell ⟨b, 7, none⟩ y7).setCell ⟨b, 8, none⟩ y8).setCell ⟨b, 9, none⟩ y9).setCell ⟨b, 10, none⟩ y10).setCell ⟨b, 11, none⟩ y11).setCell ⟨b, 12, none⟩ y12).setCell ⟨b, 13, none⟩ y13).setCell ⟨b, 14, none⟩ y14).setCell ⟨b, 15, none⟩ y15).setCell ⟨b, 16, none⟩ y16).setCell ⟨b, 17, none⟩ y17).setCell ⟨b, 18, none⟩ y18).setCell ⟨b, 19, none⟩ y19).setCell ⟨b, 20, none⟩ y20) := o20.setCell (p := ⟨b, 20, none⟩) (.inr ⟨Nat.le_refl _, Nat.lt_succ_self _⟩) y20
  have o22 : Only b (b + 1) w ((((((((((((((((((((((w.setCell ⟨b, 0, none⟩ y0).setCell ⟨b, 1, none⟩ y1).setCell ⟨b, 2, none⟩ y2).setCell ⟨b, 3, none⟩ y3).setCell ⟨b, 4, none⟩ y4).setCell ⟨b, 5, none⟩ y5).setCell ⟨b, 6, none⟩ y6).setCell ⟨b, 7, none⟩ y7).setCell ⟨b, 8, none⟩ y8).setCell ⟨b, 9, none⟩ y9).setCell ⟨b, 10, none⟩ y10).setCell ⟨b, 11, none⟩ y11).setCell ⟨b, 12, none⟩ y12).setCell ⟨b, 13, none⟩ y13).setCell ⟨b, 14, none⟩ y14).setCell ⟨b, 15, none⟩ y15).setCell ⟨b, 16, none⟩ y16).setCell ⟨b, 17, none⟩ y17).setCell ⟨b, 18, none⟩ y18).setCell ⟨b, 19, none⟩ y19).setCell ⟨b, 20, none⟩ y20).setCell ⟨b, 21, none⟩ y21) := o21.setCell (p := ⟨b, 21, none⟩) (.inr ⟨Nat.le_refl _, Nat.lt_succ_self _⟩) y21
  have o23 : Only b (b + 1) w (((((((((((((((((((((((w.setCell ⟨b, 0, none⟩ y0).setCell ⟨b, 1, none⟩ y1).setCell ⟨b, 2, none⟩ y2).setCell ⟨b, 3, none⟩ y3).setCell ⟨b, 4, none⟩ y4).setCell ⟨b, 5, none⟩ y5).setCell ⟨b, 6, none⟩ y6).setCell ⟨b, 7, none⟩ y7).setCell ⟨b, 8, none⟩ y8).setCell ⟨b, 9, none⟩ y9).setCell ⟨b, 10, none⟩ y10).setCell ⟨b, 11, none⟩ y11).setCell ⟨b, 12, none⟩ y12).setCell ⟨b, 13, none⟩ y13).setCell ⟨b, 14, none⟩ y14).setCell ⟨b, 15, none⟩ y15).setCell ⟨b, 16, none⟩ y16).setCell ⟨b, 17, none⟩ y17).setCell ⟨b, 18, none⟩ y18).setCell ⟨b, 19, none⟩ y19).setCell ⟨b, 20, none⟩ y20).setCell ⟨b, 21, none⟩ y21).setCell ⟨b, 22, none⟩ y22) := o22.setCell (p := ⟨b, 22, none⟩) (.inr ⟨Nat.le_refl _, Nat.lt_succ_self _⟩) y22
  have o24 : Only b (b + 1) w ((((((((((((((((((((((((w.setCell ⟨b, 0, none⟩ y0).setCell ⟨b, 1, none⟩ y1).setCell ⟨b, 2, none⟩ y2).setCell ⟨b, 3, none⟩ y3).setCell ⟨b, 4, none⟩ y4).setCell ⟨b, 5, none⟩ y5).setCell ⟨b, 6, none⟩ y6).setCell ⟨b, 7, none⟩ y7).setCell ⟨b, 8, none⟩ y8).setCell ⟨b, 9, none⟩ y9).setCell ⟨b, 10, none⟩ y10).setCell ⟨b, 11, none⟩ y11).setCell ⟨b, 12, none⟩ y12).setCell ⟨b, 13, none⟩ y13).setCell ⟨b, 14, none⟩ y14).setCell ⟨b, 15, none⟩ y15).setCell ⟨b, 16, none⟩ y16).setCell ⟨b, 17, none⟩ y17).setCell ⟨b, 18, none⟩ y18).setCell ⟨b, 19, none⟩ y19).setCell ⟨b, 20, none⟩ y20).setCell ⟨b, 21, none⟩ y21).setCell ⟨b, 22, none⟩ y22).setCell ⟨b, 23, none⟩ y23) := o23.setCell (p := ⟨b, 23, none⟩) (.inr ⟨Nat.le_refl _, Nat.lt_succ_self _⟩) y23
  exact o24
theorem Whole.put24 {w : World} {b : Nat} {t : TypeId} {x0 x1 x2 x3 x4 x5 x6 x7 x8 x9 x10 x11 x12 x13 x14 x15 x16 x17 x18 x19 x20 x21 x22 x23 : Value} (h : Whole w b t #[x0, x1, x2, x3, x4, x5, x6, x7, x8, x9, x10, x11, x12, x13, x14, x15, x16, x17, x18, x19, x20, x21, x22, x23]) (y0 y1 y2 y3 y4 y5 y6 y7 y8 y9 y10 y11 y12 y13 y14 y15 y16 y17 y18 y19 y20 y21 y22 y23 : Value) : Whole (World.put24 w b y0 y1 y2 y3 y4 y5 y6 y7 y8 y9 y10 y11 y12 y13 y14 y15 y16 y17 y18 y19 y20 y21 y22 y23) b t #[y0, y1, y2, y3, y4, y5, y6, y7, y8, y9, y10, y11, y12, y13, y14, y15, y16, y17, y18, y19, y20, y21, y22, y23] := by
  have h0 := h
  have h1 : Whole (w.setCell ⟨b, 0, none⟩ y0) b t #[y0, x1, x2, x3, x4, x5, x6, x7, x8, x9, x10, x11, x12, x13, x14, x15, x16, x17, x18, x19, x20, x21, x22, x23] := h0.set 0 y0
  have h2 : Whole ((w.setCell ⟨b, 0, none⟩ y0).setCell ⟨b, 1, none⟩ y1) b t #[y0, y1, x2, x3, x4, x5, x6, x7, x8, x9, x10, x11, x12, x13, x14, x15, x16, x17, x18, x19, x20, x21, x22, x23] := h1.set 1 y1
  have h3 : Whole (((w.setCell ⟨b, 0, none⟩ y0).setCell ⟨b, 1, none⟩ y1).setCell ⟨b, 2, none⟩ y2) b t #[y0, y1, y2, x3, x4, x5, x6, x7, x8, x9, x10, x11, x12, x13, x14, x15, x16, x17, x18, x19, x20, x21, x22, x23] := h2.set 2 y2
  have h4 : Whole ((((w.setCell ⟨b, 0, none⟩ y0).setCell ⟨b, 1, none⟩ y1).setCell ⟨b, 2, none⟩ y2).setCell ⟨b, 3, none⟩ y3) b t #[y0, y1, y2, y3, x4, x5, x6, x7, x8, x9, x10, x11, x12, x13, x14, x15, x16, x17, x18, x19, x20, x21, x22, x23] := h3.set 3 y3
  have h5 : Whole (((((w.setCell ⟨b, 0, none⟩ y0).setCell ⟨b, 1, none⟩ y1).setCell ⟨b, 2, none⟩ y2).setCell ⟨b, 3, none⟩ y3).setCell ⟨b, 4, none⟩ y4) b t #[y0, y1, y2, y3, y4, x5, x6, x7, x8, x9, x10, x11, x12, x13, x14, x15, x16, x17, x18, x19, x20, x21, x22, x23] := h4.set 4 y4
  have h6 : Whole ((((((w.setCell ⟨b, 0, none⟩ y0).setCell ⟨b, 1, none⟩ y1).setCell ⟨b, 2, none⟩ y2).setCell ⟨b, 3, none⟩ y3).setCell ⟨b, 4, none⟩ y4).setCell ⟨b, 5, none⟩ y5) b t #[y0, y1, y2, y3, y4, y5, x6, x7, x8, x9, x10, x11, x12, x13, x14, x15, x16, x17, x18, x19, x20, x21, x22, x23] := h5.set 5 y5
  have h7 : Whole (((((((w.setCell ⟨b, 0, none⟩ y0).setCell ⟨b, 1, none⟩ y1).setCell ⟨b, 2, none⟩ y2).setCell ⟨b, 3, none⟩ y3).setCell ⟨b, 4, none⟩ y4).setCell ⟨b, 5, none⟩ y5).setCell ⟨b, 6, none⟩ y6) b t #[y0, y1, y2, y3, y4, y5, y6, x7, x8, x9, x10, x11, x12, x13, x14, x15, x16, x17, x18, x19, x20, x21, x22, x23] := h6.set 6 y6
  have h8 : Whole ((((((((w.setCell ⟨b, 0, none⟩ y0).setCell ⟨b, 1, none⟩ y1).setCell ⟨b, 2, none⟩ y2).setCell ⟨b, 3, none⟩ y3).setCell ⟨b, 4, none⟩ y4).setCell ⟨b, 5, none⟩ y5).setCell ⟨b, 6, none⟩ y6).setCell ⟨b, 7, none⟩ y7) b t #[y0, y1, y2, y3, y4, y5, y6, y7, x8, x9, x10, x11, x12, x13, x14, x15, x16, x17, x18, x19, x20, x21, x22, x23] := h7.set 7 y7
  have h9 : Whole (((((((((w.setCell ⟨b, 0, none⟩ y0).setCell ⟨b, 1, none⟩ y1).setCell ⟨b, 2, none⟩ y2).setCell ⟨b, 3, none⟩ y3).setCell ⟨b, 4, none⟩ y4).setCell ⟨b, 5, none⟩ y5).setCell ⟨b, 6, none⟩ y6).setCell ⟨b, 7, none⟩ y7).setCell ⟨b, 8, none⟩ y8) b t #[y0, y1, y2, y3, y4, y5, y6, y7, y8, x9, x10, x11, x12, x13, x14, x15, x16, x17, x18, x19, x20, x21, x22, x23] := h8.set 8 y8
  have h10 : Whole ((((((((((w.setCell ⟨b, 0, none⟩ y0).setCell ⟨b, 1, none⟩ y1).setCell ⟨b, 2, none⟩ y2).setCell ⟨b, 3, none⟩ y3).setCell ⟨b, 4, none⟩ y4).setCell ⟨b, 5, none⟩ y5).setCell ⟨b, 6, none⟩ y6).setCell ⟨b, 7, none⟩ y7).setCell ⟨b, 8, none⟩ y8).setCell ⟨b, 9, none⟩ y9) b t #[y0, y1, y2, y3, y4, y5, y6, y7, y8, y9, x10, x11, x12, x13, x14, x15, x16, x17, x18, x19, x20, x21, x22, x23] := h9.set 9 y9
  have h11 : Whole (((((((((((w.setCell ⟨b, 0, none⟩ y0).setCell ⟨b, 1, none⟩ y1).setCell ⟨b, 2, none⟩ y2).setCell ⟨b, 3, none⟩ y3).setCell ⟨b, 4, none⟩ y4).setCell ⟨b, 5, none⟩ y5).setCell ⟨b, 6, none⟩ y6).setCell ⟨b, 7, none⟩ y7).setCell ⟨b, 8, none⟩ y8).setCell ⟨b, 9, none⟩ y9).setCell ⟨b, 10, none⟩ y10) b t #[y0, y1, y2, y3, y4, y5, y6, y7, y8, y9, y10, x11, x12, x13, x14, x15, x16, x17, x18, x19, x20, x21, x22, x23] := h10.set 10 y10
  have h12 : Whole ((((((((((((w.setCell ⟨b, 0, none⟩ y0).setCell ⟨b, 1, none⟩ y1).setCell ⟨b, 2, none⟩ y2).setCell ⟨b, 3, none⟩ y3).setCell ⟨b, 4, none⟩ y4).setCell ⟨b, 5, none⟩ y5).setCell ⟨b, 6, none⟩ y6).setCell ⟨b, 7, none⟩ y7).setCell ⟨b, 8, none⟩ y8).setCell ⟨b, 9, none⟩ y9).setCell ⟨b, 10, none⟩ y10).setCell ⟨b, 11, none⟩ y11) b t #[y0, y1, y2, y3, y4, y5, y6, y7, y8, y9, y10, y11, x12, x13, x14, x15, x16, x17, x18, x19, x20, x21, x22, x23] := h11.set 11 y11
  have h13 : Whole (((((((((((((w.setCell ⟨b, 0, none⟩ y0).setCell ⟨b, 1, none⟩ y1).setCell ⟨b, 2, none⟩ y2).setCell ⟨b, 3, none⟩ y3).setCell ⟨b, 4, none⟩ y4).setCell ⟨b, 5, none⟩ y5).setCell ⟨b, 6, none⟩ y6).setCell ⟨b, 7, none⟩ y7).setCell ⟨b, 8, none⟩ y8).setCell ⟨b, 9, none⟩ y9).setCell ⟨b, 10, none⟩ y10).setCell ⟨b, 11, none⟩ y11).setCell ⟨b, 12, none⟩ y12) b t #[y0, y1, y2, y3, y4, y5, y6, y7, y8, y9, y10, y11, y12, x13, x14, x15, x16, x17, x18, x19, x20, x21, x22, x23] := h12.set 12 y12
  have h14 : Whole ((((((((((((((w.setCell ⟨b, 0, none⟩ y0).setCell ⟨b, 1, none⟩ y1).setCell ⟨b, 2, none⟩ y2).setCell ⟨b, 3, none⟩ y3).setCell ⟨b, 4, none⟩ y4).setCell ⟨b, 5, none⟩ y5).setCell ⟨b, 6, none⟩ y6).setCell ⟨b, 7, none⟩ y7).setCell ⟨b, 8, none⟩ y8).setCell ⟨b, 9, none⟩ y9).setCell ⟨b, 10, none⟩ y10).setCell ⟨b, 11, none⟩ y11).setCell ⟨b, 12, none⟩ y12).setCell ⟨b, 13, none⟩ y13) b t #[y0, y1, y2, y3, y4, y5, y6, y7, y8, y9, y10, y11, y12, y13, x14, x15, x16, x17, x18, x19, x20, x21, x22, x23] := h13.set 13 y13
  have h15 : Whole (((((((((((((((w.setCell ⟨b, 0, none⟩ y0).setCell ⟨b, 1, none⟩ y1).setCell ⟨b, 2, none⟩ y2).setCell ⟨b, 3, none⟩ y3).setCell ⟨b, 4, none⟩ y4).setCell ⟨b, 5, none⟩ y5).setCell ⟨b, 6, none⟩ y6).setCell ⟨b, 7, none⟩ y7).setCell ⟨b, 8, none⟩ y8).setCell ⟨b, 9, none⟩ y9).setCell ⟨b, 10, none⟩ y10).setCell ⟨b, 11, none⟩ y11).setCell ⟨b, 12, none⟩ y12).setCell ⟨b, 13, none⟩ y13).setCell ⟨b, 14, none⟩ y14) b t #[y0, y1, y2, y3, y4, y5, y6, y7, y8, y9, y10, y11, y12, y13, y14, x15, x16, x17, x18, x19, x20, x21, x22, x23] := h14.set 14 y14
  have h16 : Whole ((((((((((((((((w.setCell ⟨b, 0, none⟩ y0).setCell ⟨b, 1, none⟩ y1).setCell ⟨b, 2, none⟩ y2).setCell ⟨b, 3, none⟩ y3).setCell ⟨b, 4, none⟩ y4).setCell ⟨b, 5, none⟩ y5).setCell ⟨b, 6, none⟩ y6).setCell ⟨b, 7, none⟩ y7).setCell ⟨b, 8, none⟩ y8).setCell ⟨b, 9, none⟩ y9).setCell ⟨b, 10, none⟩ y10).setCell ⟨b, 11, none⟩ y11).setCell ⟨b, 12, none⟩ y12).setCell ⟨b, 13, none⟩ y13).setCell ⟨b, 14, none⟩ y14).setCell ⟨b, 15, none⟩ y15) b t #[y0, y1, y2, y3, y4, y5, y6, y7, y8, y9, y10, y11, y12, y13, y14, y15, x16, x17, x18, x19, x20, x21, x22, x23] := h15.set 15 y15
  have h17 : Whole (((((((((((((((((w.setCell ⟨b, 0, none⟩ y0).setCell ⟨b, 1, none⟩ y1).setCell ⟨b, 2, none⟩ y2).setCell ⟨b, 3, none⟩ y3).setCell ⟨b, 4, none⟩ y4).setCell ⟨b, 5, none⟩ y5).setCell ⟨b, 6, none⟩ y6).setCell ⟨b, 7, none⟩ y7).setCell ⟨b, 8, none⟩ y8).setCell ⟨b, 9, none⟩ y9).setCell ⟨b, 10, none⟩ y10).setCell ⟨b, 11, none⟩ y11).setCell ⟨b, 12, none⟩ y12).setCell ⟨b, 13, none⟩ y13).setCell ⟨b, 14, none⟩ y14).setCell ⟨b, 15, none⟩ y15).setCell ⟨b, 16, none⟩ y16) b t #[y0, y1, y2, y3, y4, y5, y6, y7, y8, y9, y10, y11, y12, y13, y14, y15, y16, x17, x18, x19, x20, x21, x22, x23] := h16.set 16 y16
  have h18 : Whole ((((((((((((((((((w.setCell ⟨b, 0, none⟩ y0).setCell ⟨b, 1, none⟩ y1).setCell ⟨b, 2, none⟩ y2).setCell ⟨b, 3, none⟩ y3).setCell ⟨b, 4, none⟩ y4).setCell ⟨b, 5, none⟩ y5).setCell ⟨b, 6, none⟩ y6).setCell ⟨b, 7, none⟩ y7).setCell ⟨b, 8, none⟩ y8).setCell ⟨b, 9, none⟩ y9).setCell ⟨b, 10, none⟩ y10).setCell ⟨b, 11, none⟩ y11).setCell ⟨b, 12, none⟩ y12).setCell ⟨b, 13, none⟩ y13).setCell ⟨b, 14, none⟩ y14).setCell ⟨b, 15, none⟩ y15).setCell ⟨b, 16, none⟩ y16).setCell ⟨b, 17, none⟩ y17) b t #[y0, y1, y2, y3, y4, y5, y6, y7, y8, y9, y10, y11, y12, y13, y14, y15, y16, y17, x18, x19, x20, x21, x22, x23] := h17.set 17 y17
  have h19 : Whole (((((((((((((((((((w.setCell ⟨b, 0, none⟩ y0).setCell ⟨b, 1, none⟩ y1).setCell ⟨b, 2, none⟩ y2).setCell ⟨b, 3, none⟩ y3).setCell ⟨b, 4, none⟩ y4).setCell ⟨b, 5, none⟩ y5).setCell ⟨b, 6, none⟩ y6).setCell ⟨b, 7, none⟩ y7).setCell ⟨b, 8, none⟩ y8).setCell ⟨b, 9, none⟩ y9).setCell ⟨b, 10, none⟩ y10).setCell ⟨b, 11, none⟩ y11).setCell ⟨b, 12, none⟩ y12).setCell ⟨b, 13, none⟩ y13).setCell ⟨b, 14, none⟩ y14).setCell ⟨b, 15, none⟩ y15).setCell ⟨b, 16, none⟩ y16).setCell ⟨b, 17, none⟩ y17).setCell ⟨b, 18, none⟩ y18) b t #[y0, y1, y2, y3, y4, y5, y6, y7, y8, y9, y10, y11, y12, y13, y14, y15, y16, y17, y18, x19, x20, x21, x22, x23] := h18.set 18 y18
  have h20 : Whole ((((((((((((((((((((w.setCell ⟨b, 0, none⟩ y0).setCell ⟨b, 1, none⟩ y1).setCell ⟨b, 2, none⟩ y2).setCell ⟨b, 3, none⟩ y3).setCell ⟨b, 4, none⟩ y4).setCell ⟨b, 5, none⟩ y5).setCell ⟨b, 6, none⟩ y6).setCell ⟨b, 7, none⟩ y7).setCell ⟨b, 8, none⟩ y8).setCell ⟨b, 9, none⟩ y9).setCell ⟨b, 10, none⟩ y10).setCell ⟨b, 11, none⟩ y11).setCell ⟨b, 12, none⟩ y12).setCell ⟨b, 13, none⟩ y13).setCell ⟨b, 14, none⟩ y14).setCell ⟨b, 15, none⟩ y15).setCell ⟨b, 16, none⟩ y16).setCell ⟨b, 17, none⟩ y17).setCell ⟨b, 18, none⟩ y18).setCell ⟨b, 19, none⟩ y19) b t #[y0, y1, y2, y3, y4, y5, y6, y7, y8, y9, y10, y11, y12, y13, y14, y15, y16, y17, y18, y19, x20, x21, x22, x23] := h19.set 19 y19
  have h21 : Whole (((((((((((((((((((((w.setCell ⟨b, 0, none⟩ y0).setCell ⟨b, 1, none⟩ y1).setCell ⟨b, 2, none⟩ y2).setCell ⟨b, 3, none⟩ y3).setCell ⟨b, 4, none⟩ y4).setCell ⟨b, 5, none⟩ y5).setCell ⟨b, 6, none⟩ y6).setCell ⟨b, 7, none⟩ y7).setCell ⟨b, 8, none⟩ y8).setCell ⟨b, 9, none⟩ y9).setCell ⟨b, 10, none⟩ y10).setCell ⟨b, 11, none⟩ y11).setCell ⟨b, 12, none⟩ y12).setCell ⟨b, 13, none⟩ y13).setCell ⟨b, 14, none⟩ y14).setCell ⟨b, 15, none⟩ y15).setCell ⟨b, 16, none⟩ y16).setCell ⟨b, 17, none⟩ y17).setCell ⟨b, 18, none⟩ y18).setCell ⟨b, 19, none⟩ y19).setCell ⟨b, 20, none⟩ y20) b t #[y0, y1, y2, y3, y4, y5, y6, y7, y8, y9, y10, y11, y12, y13, y14, y15, y16, y17, y18, y19, y20, x21, x22, x23] := h20.set 20 y20
  have h22 : Whole ((((((((((((((((((((((w.setCell ⟨b, 0, none⟩ y0).setCell ⟨b, 1, none⟩ y1).setCell ⟨b, 2, none⟩ y2).setCell ⟨b, 3, none⟩ y3).setCell ⟨b, 4, none⟩ y4).setCell ⟨b, 5, none⟩ y5).setCell ⟨b, 6, none⟩ y6).setCell ⟨b, 7, none⟩ y7).setCell ⟨b, 8, none⟩ y8).setCell ⟨b, 9, none⟩ y9).setCell ⟨b, 10, none⟩ y10).setCell ⟨b, 11, none⟩ y11).setCell ⟨b, 12, none⟩ y12).setCell ⟨b, 13, none⟩ y13).setCell ⟨b, 14, none⟩ y14).setCell ⟨b, 15, none⟩ y15).setCell ⟨b, 16, none⟩ y16).setCell ⟨b, 17, none⟩ y17).setCell ⟨b, 18, none⟩ y18).setCell ⟨b, 19, none⟩ y19).setCell ⟨b, 20, none⟩ y20).setCell ⟨b, 21, none⟩ y21) b t #[y0, y1, y2, y3, y4, y5, y6, y7, y8, y9, y10, y11, y12, y13, y14, y15, y16, y17, y18, y19, y20, y21, x22, x23] := h21.set 21 y21
  have h23 : Whole (((((((((((((((((((((((w.setCell ⟨b, 0, none⟩ y0).setCell ⟨b, 1, none⟩ y1).setCell ⟨b, 2, none⟩ y2).setCell ⟨b, 3, none⟩ y3).setCell ⟨b, 4, none⟩ y4).setCell ⟨b, 5, none⟩ y5).setCell ⟨b, 6, none⟩ y6).setCell ⟨b, 7, none⟩ y7).setCell ⟨b, 8, none⟩ y8).setCell ⟨b, 9, none⟩ y9).setCell ⟨b, 10, none⟩ y10).setCell ⟨b, 11, none⟩ y11).setCell ⟨b, 12, none⟩ y12).setCell ⟨b, 13, none⟩ y13).setCell ⟨b, 14, none⟩ y14).setCell ⟨b, 15, none⟩ y15).setCell ⟨b, 16, none⟩ y16).setCell ⟨b, 17, none⟩ y17).setCell ⟨b, 18, none⟩ y18).setCell ⟨b, 19, none⟩ y19).setCell ⟨b, 20, none⟩ y20).setCell ⟨b, 21, none⟩ y21).setCell ⟨b, 22, none⟩ y22) b t #[y0, y1, y2, y3, y4, y5, y6, y7, y8, y9, y10, y11, y12, y13, y14, y15, y16, y17, y18, y19, y20, y21, y22, x23] := h22.set 22 y22
  have h24 : Whole ((((((((((((((((((((((((w.setCell ⟨b, 0, none⟩ y0).setCell ⟨b, 1, none⟩ y1).setCell ⟨b, 2, none⟩ y2).setCell ⟨b, 3, none⟩ y3).setCell ⟨b, 4, none⟩ y4).setCell ⟨b, 5, none⟩ y5).setCell ⟨b, 6, none⟩ y6).setCell ⟨b, 7, none⟩ y7).setCell ⟨b, 8, none⟩ y8).setCell ⟨b, 9, none⟩ y9).setCell ⟨b, 10, none⟩ y10).setCell ⟨b, 11, none⟩ y11).setCell ⟨b, 12, none⟩ y12).setCell ⟨b, 13, none⟩ y13).setCell ⟨b, 14, none⟩ y14).setCell ⟨b, 15, none⟩ y15).setCell ⟨b, 16, none⟩ y16).setCell ⟨b, 17, none⟩ y17).setCell ⟨b, 18, none⟩ y18).setCell ⟨b, 19, none⟩ y19).setCell ⟨b, 20, none⟩ y20).setCell ⟨b, 21, none⟩ y21).setCell ⟨b, 22, none⟩ y22).setCell ⟨b, 23, none⟩ y23) b t #[y0, y1, y2, y3, y4, y5, y6, y7, y8, y9, y10, y11, y12, y13, y14, y15, y16, y17, y18, y19, y20, y21, y22, y23] := h23.set 23 y23
  exact h24
/-- the cells, one by one -/
structure W24 (w : World) (b : Nat) (x0 x1 x2 x3 x4 x5 x6 x7 x8 x9 x10 x11 x12 x13 x14 x15 x16 x17 x18 x19 x20 x21 x22 x23 : Value) : Prop where
  c0 : w.cell? ⟨b, 0, none⟩ = some x0
  c1 : w.cell? ⟨b, 1, none⟩ = some x1
  c2 : w.cell? ⟨b, 2, none⟩ = some x2
  c3 : w.cell? ⟨b, 3, none⟩ = some x3
  c4 : w.cell? ⟨b, 4, none⟩ = some x4
  c5 : w.cell? ⟨b, 5, none⟩ = some x5
  c6 : w.cell? ⟨b, 6, none⟩ = some x6
  c7 : w.cell? ⟨b, 7, none⟩ = some x7
  c8 : w.cell? ⟨b, 8, none⟩ = some x8
  c9 : w.cell? ⟨b, 9, none⟩ = some x9
  c10 : w.cell? ⟨b, 10, none⟩ = some x10
  c11 : w.cell? ⟨b, 11, none⟩ = some x11
  c12 : w.cell? ⟨b, 12, none⟩ = some x12
  c13 : w.cell? ⟨b, 13, none⟩ = some x13
  c14 : w.cell? ⟨b, 14, none⟩ = some x14
  c15 : w.cell? ⟨b, 15, none⟩ = some x15
  c16 : w.cell? ⟨b, 16, none⟩ = some x16
  c17 : w.cell? ⟨b, 17, none⟩ = some x17
  c18 : w.cell? ⟨b, 18, none⟩ = some x18
  c19 : w.cell? ⟨b, 19, none⟩ = some x19
  c20 : w.cell? ⟨b, 20, none⟩ = some x20
  c21 : w.cell? ⟨b, 21, none⟩ = some x21
  c22 : w.cell? ⟨b, 22, none⟩ = some x22
  c23 : w.cell? ⟨b, 23, none⟩ = some x23
  fr : ∀ i, w.frozen? ⟨b, i, none⟩ = false
theorem Whole.w24 {w : World} {b : Nat} {t : TypeId} {x0 x1 x2 x3 x4 x5 x6 x7 x8 x9 x10 x11 x12 x13 x14 x15 x16 x17 x18 x19 x20 x21 x22 x23 : Value} (h : Whole w b t #[x0, x1, x2, x3, x4, x5, x6, x7, x8, x9, x10, x11, x12, x13, x14, x15, x16, x17, x18, x19, x20, x21, x22, x23]) : W24 w b x0 x1 x2 x3 x4 x5 x6 x7 x8 x9 x10 x11 x12 x13 x14 x15 x16 x17 x18 x19 x20 x21 x22 x23 :=
  ⟨h.cell 0, h.cell 1, h.cell 2, h.cell 3, h.cell 4, h.cell 5, h.cell 6, h.cell 7, h.cell 8, h.cell 9, h.cell 10, h.cell 11, h.cell 12, h.cell 13, h.cell 14, h.cell 15, h.cell 16, h.cell 17, h.cell 18, h.cell 19, h.cell 20, h.cell 21, h.cell 22, h.cell 23, h.frozen⟩
end Go.Proofs.Ytefllgpehhlkoaa
namespace Go.Proofs.Ytefllgpehhlkoaa
open Go.RowKit Go.Maps
set_option linter.unusedVariables false
set_option linter.unusedSimpArgs false

theorem Whole.row {w : World} {b : Nat} {t : TypeId} {cs : Array Value} (h : Whole w b t cs) (ys : Array Value) : Whole (w.setRow b ys) b t ys ∧ Only b (b + 1) w (w.setRow b ys) := by
  refine ⟨setRow_heap w b cs ys t (0, 0) h, ⟨rfl, rfl, rfl, by simp, fun k hk ho => setRow_other w b k ys (by omega)⟩⟩
theorem run_store_part (w : World) (b off : Nat) (T t : TypeId) (cs ys : Array Value) (hw : Whole w b t cs) (hi : (Try.prog.info? T).map (·.size) = some ys.size) (h1 : ys.toList.all (·.oneCell') = true) (hfit : off + ys.size ≤ cs.size) :
    (Instr.storeAt T (.pointer (some ⟨b, off, none⟩)) (.agg ys)).run Try.prog w = .ok () (w.setRow b (cs.toList.take off ++ ys.toList ++ cs.toList.drop (off + ys.size)).toArray) := by
  have h := run_storeCells_at (P := Try.prog) b off t ys.toList 0 cs w hw (by simpa using hfit) (fun v hv => (List.all_eq_true.1 h1) v hv)
  simp only [Instr.storeAt, Instr.sureAddr, Sem.run_bind, Sem.run_pure, Result.andThen]
  cases hq : Try.prog.info? T with
  | none => simp [hq] at hi
  | some i =>
    have hs : i.size = ys.size := by simpa [hq] using hi
    simp [storeVar, sizeOf, typeInfo, hq, Value.cells, hs]
    simpa using h
theorem load_whole {w : World} {b : Nat} {t : TypeId} {cs : Array Value} (hw : Whole w b t cs) (n : Nat) (hn : cs.size = n) : (loadCellsFrom ⟨b, 0, none⟩ 0 n #[]).run Try.prog w = .ok cs w := by
  subst hn
  have h := run_loadCells_list (P := Try.prog) (w := w) ⟨b, 0, none⟩ cs.toList (fun j v hv => by
    have hadd : (⟨b, 0, none⟩ : Addr).add j = ⟨b, j, none⟩ := by unfold Addr.add; split <;> simp_all
    rw [hadd, hw.cell]
    simpa using hv)
  simpa [loadCells] using h
/-- is it a struct or an array? -/
def AggTy (T : TypeId) : Prop := ∃ d, Try.prog.underlying T = some d ∧ (match d with | .struct _ | .array _ _ => true | _ => false) = true
theorem run_isAgg {T : TypeId} (h : AggTy T) (w : World) : (isAgg T).run Try.prog w = .ok true w := by
  obtain ⟨d, hu, hd⟩ := h
  cases d <;> simp at hd <;> simp [isAgg, hu, run_underlying hu]
theorem run_sizeOf {T : TypeId} {n : Nat} (h : (Try.prog.info? T).map (·.size) = some n) (w : World) : (sizeOf T).run Try.prog w = .ok n w := by
  cases hq : Try.prog.info? T with
  | none => simp [hq] at h
  | some i =>
    have hs : i.size = n := by simpa [hq] using h
    simp [sizeOf, typeInfo, hq, hs]
/-- a struct and another result, at the end -/
theorem results_whole2 {fn : Func} {k t : Tmp} {T T' : TypeId} (h : fn.results = #[.cell k T, .tmp t]) (tmps : Array Value) (w : World) (b : Nat) (ys : Array Value) (hk : tmps[k]?.getD undef = .pointer (some ⟨b, 0, none⟩)) (hT : AggTy T) (hi : (Try.prog.info? T).map (·.size) = some ys.size) (hw : Whole w b T' ys) :
    (results fn tmps).run Try.prog w = .ok (.tuple #[.agg ys, tmps[t]?.getD undef]) w := by
  have h1 := run_isAgg hT w
  have h2 := run_sizeOf hi w
  have h3 := load_whole hw ys.size rfl
  simp [results, h, hk, asAddr, loadVar, loadCells, h1, h2, h3, Result.andThen]
theorem results_whole1 {fn : Func} {k : Tmp} {T T' : TypeId} (h : fn.results = #[.cell k T]) (tmps : Array Value) (w : World) (b : Nat) (ys : Array Value) (hk : tmps[k]?.getD undef = .pointer (some ⟨b, 0, none⟩)) (hT : AggTy T) (hi : (Try.prog.info? T).map (·.size) = some ys.size) (hw : Whole w b T' ys) :
    (results fn tmps).run Try.prog w = .ok (.agg ys) w := by
  have h1 := run_isAgg hT w
  have h2 := run_sizeOf hi w
  have h3 := load_whole hw ys.size rfl
  simp [results, h, hk, asAddr, loadVar, loadCells, h1, h2, h3, Result.andThen]
/-- 'x = y' of a struct, at the operation -/
theorem wpList_store_part (w : World) {ops : Array Oper} {rest : List Oper} {o : Oper} {a : Act} {Q : Exit → Act → World → Prop} (hgd : o.guard = none) (pa va : Operand) (T : TypeId) (ho : o.op = .store T pa va)
    (b off : Nat) (ys : Array Value) (hp : a.eval pa = .pointer (some ⟨b, off, none⟩)) (hv : a.eval va = .agg ys) (hi : (Try.prog.info? T).map (·.size) = some ys.size) (h1 : ys.toList.all (·.oneCell') = true)
    (t : TypeId) (cs : Array Value) (hw : Whole w b t cs) (hfit : off + ys.size ≤ cs.size) (zs : Array Value) (hz : zs = (cs.toList.take off ++ ys.toList ++ cs.toList.drop (off + ys.size)).toArray)
    (h : ∀ w', Whole w' b t zs → Only b (b + 1) w w' → wpList Try.prog ops Q rest (a.put o.dst undef) w') : wpList Try.prog ops Q (o :: rest) a w := by
  refine wpList_plain hgd fun K hK => ?_
  have hr := run_store_part w b off T t cs ys hw hi h1 hfit
  have hrow := hw.row zs
  rw [← hz] at hr
  unfold Oper.wp execOp
  simp only [ho, Sem.run_bind, Sem.run_pure, Result.andThen_ok, hp, hv, hr]
  exact hK _ _ (h _ hrow.1 hrow.2)
theorem run_load_part (w : World) (b off : Nat) (T t : TypeId) (cs ys : Array Value) (hw : Whole w b t cs) (hT : AggTy T) (hi : (Try.prog.info? T).map (·.size) = some ys.size) (hy : ∀ j v, ys.toList[j]? = some v → cs[off + j]? = some v) :
    (Instr.loadAt T (.pointer (some ⟨b, off, none⟩))).run Try.prog w = .ok (.agg ys) w := by
  have h := run_loadCells_list (P := Try.prog) (w := w) ⟨b, off, none⟩ ys.toList (fun j v hv => by
    have hadd : (⟨b, off, none⟩ : Addr).add j = ⟨b, off + j, none⟩ := by unfold Addr.add; split <;> simp_all
    rw [hadd, hw.cell]
    exact hy j v hv)
  obtain ⟨d, hu, hd⟩ := hT
  simp only [Instr.loadAt, Instr.sureAddr, Sem.run_bind, Sem.run_pure, Result.andThen]
  cases hq : Try.prog.info? T with
  | none => simp [hq] at hi
  | some i =>
    have hs : i.size = ys.size := by simpa [hq] using hi
    have ha : (isAgg T).run Try.prog w = .ok true w := by
      cases d <;> simp at hd <;> simp [isAgg, hu, run_underlying hu]
    simp only [loadVar, Sem.run_bind, ha, Result.andThen_ok, if_true]
    have h' : Sem.run Try.prog (loadCells ⟨b, off, none⟩ ys.size) w = .ok ys w := by simpa using h
    simp [sizeOf, typeInfo, hq, hs, h', Result.andThen]
/-- 'x' of a struct, read, at the operation -/
theorem wpList_load_part (w : World) {ops : Array Oper} {rest : List Oper} {o : Oper} {a : Act} {Q : Exit → Act → World → Prop} (hgd : o.guard = none) (pa : Operand) (T : TypeId) (ho : o.op = .load T pa)
    (b off : Nat) (ys : Array Value) (hp : a.eval pa = .pointer (some ⟨b, off, none⟩)) (hT : AggTy T) (hi : (Try.prog.info? T).map (·.size) = some ys.size)
    (t : TypeId) (cs : Array Value) (hw : Whole w b t cs) (hy : ∀ j v, ys.toList[j]? = some v → cs[off + j]? = some v)
    (h : wpList Try.prog ops Q rest (a.put o.dst (.agg ys)) w) : wpList Try.prog ops Q (o :: rest) a w := by
  refine wpList_plain hgd fun K hK => ?_
  have hr := run_load_part w b off T t cs ys hw hT hi hy
  unfold Oper.wp execOp
  simp only [ho, Sem.run_bind, Sem.run_pure, Result.andThen_ok, hp, hr]
  exact hK _ _ h
end Go.Proofs.Ytefllgpehhlkoaa
namespace Go.Proofs.Ytefllgpehhlkoaa
open Go.RowKit Go.Maps
set_option linter.unusedVariables false
set_option linter.unusedSimpArgs false

/-- how a message lies in a row -/
def lay5 : Lay Word where
  t := 107
  e := 141
  k := 5
  bytes := 40
  zero := .agg #[.int .i64 0, .int .i64 0, .int .i64 0, .int .i64 0, .int .i64 0]
  enc m := [m.kind, (m.holder : Int), m.place, m.num, m.epoch]
  pos := by decide
  len _ := rfl
  ht := Try.underlying107
  hi := by kernel_rfl
  hz := by kernel_rfl
  hb := by decide
/-- the cells of a world -/
def cells24 (p : Nat) (s : LS) (m : Option Nat) (hs : Nat → HS) (a b : Nat → Option Nat) (v : Value) (term margin : Int) (bg : Bool) : Array Value :=
  #[.pointer (some ⟨p, 0, none⟩), .int .i64 s.epoch, .int .i64 s.quiet, .map m, .int .i64 (hs 0).life, .int .i64 (hs 0).count, .map (a 0), .map (b 0), .int .i64 (hs 1).life, .int .i64 (hs 1).count, .map (a 1), .map (b 1), .int .i64 (hs 2).life, .int .i64 (hs 2).count, .map (a 2), .map (b 2), .int .i64 (hs 3).life, .int .i64 (hs 3).count, .map (a 3), .map (b 3), v, .int .i64 term, .int .i64 margin, .bool bg]
/-- what of it lies elsewhere -/
structure Wd (W : World) (lo p base : Nat) (x : MW) (m : Option Nat) (a b : Nat → Option Nat) (v : Value) : Prop where
  clk : Clk W lo (lo + 4) p 4 x.c
  s : MapIs tripE W m x.s.hs
  hw : ∀ j, MapIs pairE W (a j) (x.hs j).wants
  hh : ∀ j, MapIs pairE W (b j) (x.hs j).has
  way : OwnS lay5 W base v x.way
  full : lo + 4 ≤ W.heap.size
theorem Wd.kept {W W' : World} {lo p base : Nat} {x : MW} {m : Option Nat} {a b : Nat → Option Nat} {v : Value} (k : Wd W lo p base x m a b v) (o : Only W.heap.size W.heap.size W W') : Wd W' lo p base x m a b v :=
  ⟨k.clk.kept o (.inl k.full), mapIs_out k.s o, fun j => mapIs_out (k.hw j) o, fun j => mapIs_out (k.hh j) o, k.way.grown o, Nat.le_trans k.full o.size⟩

set_option maxRecDepth 100000 in
set_option maxHeartbeats 2000000 in
theorem begin_mar (w : World) (term margin : Int) : Calls Try.prog 50 #[.agg #[.int .i64 term, .int .i64 margin]] w fun e w' => ∃ p, e = .returned (.tuple #[.agg (cells24 p ⟨0, 0, []⟩ none (fun _ => ⟨0, 0, [], []⟩) (fun _ => none) (fun _ => none) (.slice none 0 0) term margin false), .bool true]) ∧ Clk w' (w.heap.size + 2) (w.heap.size + 2 + 4) p 4 St.zero ∧ w.heap.size + 2 + 4 ≤ w'.heap.size ∧ Only w.heap.size w.heap.size w w' := by
  have hO : Hid (Only w.heap.size w.heap.size w w) := Lib.hid (Only.refl _ _ _)
  have HP := Lib.hid (fun W (o : Only ((w.alloc (.cells #[.int .i64 term, .int .i64 margin] 37)).alloc (.cells #[.pointer none, .int .i64 0, .int .i64 0, .map none, .int .i64 0, .int .i64 0, .map none, .map none, .int .i64 0, .int .i64 0, .map none, .map none, .int .i64 0, .int .i64 0, .map none, .map none, .int .i64 0, .int .i64 0, .map none, .map none, .slice none 0 0, .int .i64 0, .int .i64 0, .bool false] 109)).heap.size ((w.alloc (.cells #[.int .i64 term, .int .i64 margin] 37)).alloc (.cells #[.pointer none, .int .i64 0, .int .i64 0, .map none, .int .i64 0, .int .i64 0, .map none, .map none, .int .i64 0, .int .i64 0, .map none, .map none, .int .i64 0, .int .i64 0, .map none, .map none, .int .i64 0, .int .i64 0, .map none, .map none, .slice none 0 0, .int .i64 0, .int .i64 0, .bool false] 109)).heap.size ((w.alloc (.cells #[.int .i64 term, .int .i64 margin] 37)).alloc (.cells #[.pointer none, .int .i64 0, .int .i64 0, .map none, .int .i64 0, .int .i64 0, .map none, .map none, .int .i64 0, .int .i64 0, .map none, .map none, .int .i64 0, .int .i64 0, .map none, .map none, .int .i64 0, .int .i64 0, .map none, .map none, .slice none 0 0, .int .i64 0, .int .i64 0, .bool false] 109)) W) => (Whole.new w 37 #[.int .i64 term, .int .i64 margin] w.heap.size rfl).out (((Only.refl _ _ _).alloc (.cells #[.pointer none, .int .i64 0, .int .i64 0, .map none, .int .i64 0, .int .i64 0, .map none, .map none, .int .i64 0, .int .i64 0, .map none, .map none, .int .i64 0, .int .i64 0, .map none, .map none, .int .i64 0, .int .i64 0, .map none, .map none, .slice none 0 0, .int .i64 0, .int .i64 0, .bool false] 109)).then o (by simp)))
  have HR := Lib.hid (fun W (o : Only ((w.alloc (.cells #[.int .i64 term, .int .i64 margin] 37)).alloc (.cells #[.pointer none, .int .i64 0, .int .i64 0, .map none, .int .i64 0, .int .i64 0, .map none, .map none, .int .i64 0, .int .i64 0, .map none, .map none, .int .i64 0, .int .i64 0, .map none, .map none, .int .i64 0, .int .i64 0, .map none, .map none, .slice none 0 0, .int .i64 0, .int .i64 0, .bool false] 109)).heap.size ((w.alloc (.cells #[.int .i64 term, .int .i64 margin] 37)).alloc (.cells #[.pointer none, .int .i64 0, .int .i64 0, .map none, .int .i64 0, .int .i64 0, .map none, .map none, .int .i64 0, .int .i64 0, .map none, .map none, .int .i64 0, .int .i64 0, .map none, .map none, .int .i64 0, .int .i64 0, .map none, .map none, .slice none 0 0, .int .i64 0, .int .i64 0, .bool false] 109)).heap.size ((w.alloc (.cells #[.int .i64 term, .int .i64 margin] 37)).alloc (.cells #[.pointer none, .int .i64 0, .int .i64 0, .map none, .int .i64 0, .int .i64 0, .map none, .map none, .int .i64 0, .int .i64 0, .map none, .map none, .int .i64 0, .int .i64 0, .map none, .map none, .int .i64 0, .int .i64 0, .map none, .map none, .slice none 0 0, .int .i64 0, .int .i64 0, .bool false] 109)) W) => (Whole.new (w.alloc (.cells #[.int .i64 term, .int .i64 margin] 37)) 109 #[.pointer none, .int .i64 0, .int .i64 0, .map none, .int .i64 0, .int .i64 0, .map none, .map none, .int .i64 0, .int .i64 0, .map none, .map none, .int .i64 0, .int .i64 0, .map none, .map none, .int .i64 0, .int .i64 0, .map none, .map none, .slice none 0 0, .int .i64 0, .int .i64 0, .bool false] (w.heap.size + 1) (by simp)).out o)
  go_enter Try.func50, Try.ntmps50
  go_wp2_with (first
    | (go_at_call 17; refine (new_some 4 _ (by decide) (by decide)).mono ?_; rintro e W1 ⟨p, rfl, hq, ho⟩; have HQ := Lib.hid hq; have HO1 := Lib.hid ho; have hp := HP.out W1 ho; have hr := HR.out W1 ho; have HRR := Lib.hid hr; have p0 : W1.cell? ⟨w.heap.size, 0, none⟩ = some (.int .i64 term) := hp.cell 0; have p1 : W1.cell? ⟨w.heap.size, 1, none⟩ = some (.int .i64 margin) := hp.cell 1; clear hq ho hp hr)
    | (refine wpList_store_part _ rfl (.tmp 2) (.tmp 12) 109 rfl (w.heap.size + 1) 0 #[.pointer (some ⟨p, 0, none⟩), .int .i64 0, .int .i64 0, .map none, .int .i64 0, .int .i64 0, .map none, .map none, .int .i64 0, .int .i64 0, .map none, .map none, .int .i64 0, .int .i64 0, .map none, .map none, .int .i64 0, .int .i64 0, .map none, .map none, .slice none 0 0, .int .i64 term, .int .i64 margin, .bool false] rfl rfl (by kernel_rfl) rfl 109 _ HRR.out (Nat.le_refl 24) #[.pointer (some ⟨p, 0, none⟩), .int .i64 0, .int .i64 0, .map none, .int .i64 0, .int .i64 0, .map none, .map none, .int .i64 0, .int .i64 0, .map none, .map none, .int .i64 0, .int .i64 0, .map none, .map none, .int .i64 0, .int .i64 0, .map none, .map none, .slice none 0 0, .int .i64 term, .int .i64 margin, .bool false] rfl ?_; intro w3 hW3 hO3; have HW3 := Lib.hid hW3; have HO3 := Lib.hid hO3; clear hW3 hO3)
    | fail)
  refine bodyPost_ret (results_whole2 rfl _ _ _ _ rfl ⟨_, Try.underlying109, rfl⟩ (by kernel_rfl) HW3.out) rfl ?_
  have hlo : (w.heap.size + 2 : Nat) ≤ W1.heap.size := by have h := HO1.out.size; simp at h; omega
  have hq := HQ.out
  have e : ((w.alloc (.cells #[.int .i64 term, .int .i64 margin] 37)).alloc (.cells #[.pointer none, .int .i64 0, .int .i64 0, .map none, .int .i64 0, .int .i64 0, .map none, .map none, .int .i64 0, .int .i64 0, .map none, .map none, .int .i64 0, .int .i64 0, .map none, .map none, .int .i64 0, .int .i64 0, .map none, .map none, .slice none 0 0, .int .i64 0, .int .i64 0, .bool false] 109)).heap.size = w.heap.size + 2 := by simp
  rw [e] at hq
  have h4 := clk_full hq
  exact ⟨p, rfl, hq.kept HO3.out (.inr (by omega)), Nat.le_trans h4 HO3.out.size, ((((hO.out.alloc _).alloc _).then HO1.out (by simp; omega)).fresh (HO3.out.mono (by omega) (Nat.le_refl _)))⟩
end Go.Proofs.Ytefllgpehhlkoaa
