/-
  The document's lease (tillerref18): with.
-/
import Derived.Test.YtefllgpehhlkoaaRefL
namespace Go.Proofs.Ytefllgpehhlkoaa
open Go.RowKit Go.Maps
set_option linter.unusedVariables false

/-- what has been gathered, and whether the new one is in -/
def outM (m0 : Bool) (k : Int) (x : Int × Int × Int) (l : Trips) : Trips := if m0 = true then mdel l k else sofar k x l
def dnM (m0 : Bool) (k : Int) (l : Trips) : Bool := m0 || past k l
theorem outM_same (m0 : Bool) (k : Int) (x : Int × Int × Int) (l : Trips) (y : Rec4) (h : y.1 = k) : outM m0 k x (l ++ [y]) = outM m0 k x l ∧ dnM m0 k (l ++ [y]) = dnM m0 k l := by
  unfold outM dnM
  cases m0
  · have := sofar_same k x l y h
    simp [this]
  · simp only [if_true, Bool.true_or, and_true]
    rw [mdel_app, mdel_one, if_pos h, List.append_nil]
theorem outM_next (m0 : Bool) (k : Int) (x : Int × Int × Int) (l : Trips) (y : Rec4) (h : y.1 ≠ k) :
    outM m0 k x (l ++ [y]) = (if dnM m0 k l = false ∧ k < y.1 then outM m0 k x l ++ [(k, x)] else outM m0 k x l) ++ [y] ∧ dnM m0 k (l ++ [y]) = (dnM m0 k l || decide (k < y.1)) := by
  unfold outM dnM
  cases m0
  · have := sofar_next k x l y h
    simpa using this
  · simp only [if_true, Bool.true_or, Bool.true_eq_false, false_and, if_false, and_true]
    rw [mdel_app, mdel_one, if_neg h]
theorem outM_end (m0 : Bool) (k : Int) (x : Int × Int × Int) (l : Trips) : (if dnM m0 k l = false then outM m0 k x l ++ [(k, x)] else outM m0 k x l) = if m0 = true then mdel l k else mput l k x := by
  unfold outM dnM
  cases m0
  · have := sofar_end k x l
    simp only [Bool.false_or, Bool.false_eq_true, if_false]
    exact this.symm
  · simp
theorem outM_len (m0 : Bool) (k : Int) (x : Int × Int × Int) (l : Trips) : (outM m0 k x l).length ≤ l.length + 1 := by
  unfold outM
  cases m0
  · simpa using sofar_len k x l
  · have := mdel_len l k
    simp; omega
theorem lasting_snoc_no {l : Trips} {now : Int} {j : Nat} {y : Rec4} (ht : l.take (j + 1) = l.take j ++ [y]) (h : y.2.2.2 ≤ now) : lasting (l.take (j + 1)) now = lasting (l.take j) now := by
  rw [ht]; unfold lasting; rw [List.filter_append]; simp; omega
theorem lasting_snoc_yes {l : Trips} {now : Int} {j : Nat} {y : Rec4} (ht : l.take (j + 1) = l.take j ++ [y]) (h : ¬ y.2.2.2 ≤ now) : lasting (l.take (j + 1)) now = lasting (l.take j) now ++ [y] := by
  rw [ht]; unfold lasting; rw [List.filter_append]; congr 1; simp; omega

/-- what the loop keeps -/
structure Wi (w W : World) (epoch quiet : Int) (mm : Rec4) (out : Trips) (v : Value) : Prop where
  box : XBox W (w.heap.size + 3) epoch quiet v
  own : OwnS hold4 W (w.heap.size + 4) v out
  more : T4 W (w.heap.size + 1) mm
  res : XBox W (w.heap.size + 2) 0 0 (.slice none 0 0)
  only : Only w.heap.size w.heap.size w W
  size : w.heap.size + 4 ≤ W.heap.size
theorem Wi.kept {w W W' : World} {epoch quiet : Int} {mm : Rec4} {out : Trips} {v : Value} (h : Wi w W epoch quiet mm out v) (o : Only W.heap.size W.heap.size W W') : Wi w W' epoch quiet mm out v :=
  have hz := h.size
  ⟨h.box.kept o (by omega) (.inl (by omega)), h.own.grown o, h.more.kept o (by omega) (.inl (by omega)), h.res.kept o (by omega) (.inl (by omega)), h.only.then o h.only.size, Nat.le_trans hz o.size⟩
def WiRel (w : World) (epoch quiet now place : Int) (mm : Rec4) (l : Trips) (m0 : Bool) (dv jv : Value) (W : World) : Prop :=
  ∃ (j : Nat) (v : Value), jv = .int .i64 j ∧ j ≤ l.length ∧ dv = .bool (dnM m0 place (lasting (l.take j) now)) ∧ Wi w W epoch quiet mm (outM m0 place mm.2 (lasting (l.take j) now)) v
/-- behind an append: the list is stored -/
theorem Wi.put {w W X : World} {epoch quiet : Int} {mm : Rec4} {out ys : Trips} {v u : Value} (h : Wi w W epoch quiet mm out v) (hu : OwnS hold4 X (w.heap.size + 4) u ys) (hg : W.grownBy X v.ownBlock) :
    Wi w (X.setCell ⟨w.heap.size + 3, 2, none⟩ u) epoch quiet mm ys u ∧ ∀ b, w.heap.size + 4 ≤ b → (∀ g, v.ownBlock = some g → g ≠ b) → b < W.heap.size → (X.setCell ⟨w.heap.size + 3, 2, none⟩ u).heap[b]? = W.heap[b]? := by
  have hz := h.size
  have hs := hg.size
  have o : Only (w.heap.size + 4) W.heap.size W X := h.own.only hg (fun g e => (h.own.blocks g e).2)
  have o2 : Only (w.heap.size + 3) (w.heap.size + 3 + 1) X (X.setCell ⟨w.heap.size + 3, 2, none⟩ u) := (Only.refl _ _ X).setCell (p := ⟨w.heap.size + 3, 2, none⟩) (.inr ⟨Nat.le_refl _, Nat.lt_succ_self _⟩) u
  have b := h.box.kept o (by omega) (.inl (by omega))
  have m := h.more.kept o (by omega) (.inl (by omega))
  have r := h.res.kept o (by omega) (.inl (by omega))
  refine ⟨⟨b.list u, hu.keptOnly o2 (by omega), m.kept o2 (by omega) (.inl (by omega)), r.kept o2 (by omega) (.inl (by omega)), (h.only.fresh (o.mono (by omega) (Nat.le_refl _))).fresh (o2.mono (by omega) (Nat.le_refl _)), by have := o2.size; omega⟩, fun b h1 h2 h3 => ?_⟩
  rw [o2.block b (by omega) (.inr (by omega))]
  exact hg.block b h3 (fun e => h2 b e.symm rfl)
theorem Wi.mid {w W X : World} {epoch quiet : Int} {mm : Rec4} {out : Trips} {v : Value} (h : Wi w W epoch quiet mm out v) (hg : W.grownBy X v.ownBlock) : X.cell? ⟨w.heap.size + 1 + 1 + 1, 2, none⟩ = some v ∧ X.frozen? ⟨w.heap.size + 1 + 1 + 1, 2, none⟩ = false := by
  have hz := h.size
  have o : Only (w.heap.size + 4) W.heap.size W X := h.own.only hg (fun g e => (h.own.blocks g e).2)
  have b := h.box.kept o (by omega) (.inl (by omega))
  exact ⟨b.c2, b.fr 2⟩
end Go.Proofs.Ytefllgpehhlkoaa
