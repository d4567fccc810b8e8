/-
  What an argument is: a struct of two ints; a slice of structs of ints; a slice of bools.
-/
import Derived.Test.YtefllgpehhlkoaaChecked
import Derived.Lib.SmallJoins
import Derived.Deep.Slices
import Derived.Deep.Grids
namespace Go.Proofs.Ytefllgpehhlkoaa
open Go.ChangeShapes Go.WideShapes Go.ChangeAt Go.RowKit Go.Joins Go.Deep

section
variable {H : Type} {enc : TypeId × Value → H} {w : World} {base : Nat} {spare : Nat → Bool} {held : Bool}

theorem trod_i64 {n : Nat} {v : Value} {y : DataW H × List MemPlace} (h : DataW.trod enc Try.prog w base spare held n 3 [v] = some y) : ∃ x, v = .int .i64 x ∧ (Lit.int .i64 x).wf = true := by
  obtain ⟨x, h1, _, h3⟩ := DataW.trod_int Try.underlying3 h
  simp at h1
  exact ⟨x, h1, h3⟩

set_option maxRecDepth 100000 in
theorem open_plan {r : Reach} {b0 : Nat} {v : Value} {d : DataW H} {p : List MemPlace} (hv : Value.okWide Try.prog w r b0 37 v) (h : DataW.Trod enc Try.prog w base spare held 37 v d p) :
    ∃ x y, v = .agg #[.int .i64 x, .int .i64 y] ∧ (Lit.int .i64 x).wf = true ∧ (Lit.int .i64 y).wf = true := by
  obtain ⟨v0, v1, y0, y1, n, rfl, _, _, h0, h1⟩ := open_agg2 Try.underlying37 (by kernel_rfl) (by kernel_rfl) hv h
  obtain ⟨x, rfl, hx⟩ := trod_i64 h0
  obtain ⟨y, rfl, hy⟩ := trod_i64 h1
  exact ⟨x, y, rfl, hx, hy⟩
end
end Go.Proofs.Ytefllgpehhlkoaa
