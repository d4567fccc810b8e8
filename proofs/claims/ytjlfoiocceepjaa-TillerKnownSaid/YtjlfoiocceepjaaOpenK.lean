/-
  What an argument is, in the print's words: a slice of whole numbers.
-/
import Derived.Test.YtjlfoiocceepjaaWLast
import Derived.Test.YtjlfoiocceepjaaWMore
import Derived.Lib.SmallJoins
import Derived.ChangeSlices
namespace Go.Proofs.Ytjlfoiocceepjaa
set_option linter.unusedSimpArgs false
open Go.ChangeShapes Go.WideShapes Go.ChangeAt Go.RowKit Go.Joins Go.Proofs.YtjlfoiocceepjaaW.PrintWords Go.Proofs.YtjlfoiocceepjaaW.PrintLast Go.Proofs.YtjlfoiocceepjaaW.PrintMore
section
variable {H : Type} {enc : TypeId × Value → H} {P : Program} {w : World} {base : Nat} {held : Bool}
theorem open_C {t e : TypeId} {k : IntKind} {fuel : Nat} {v : Value} {x : DataW H × List MemPlace} (ht : P.underlying t = some (.slice e)) (he : P.underlying e = some (.int k)) (hc : P.cellsOf e = 1)
    (h : DataW.trod enc P w base (fun _ => true) held fuel t [v] = some x) :
    ∃ (A : Option Addr) (cap : Nat) (l : List Int), v = .slice A l.length cap ∧ l.length ≤ cap ∧ cap ≤ 9223372036854775807 ∧ (Kd.int k).C w A l.length l ∧ (∀ n ∈ l, (Lit.int k n).wf = true) := by
  rcases open_ints ht he hc h with ⟨hcs, _⟩ | ⟨x, l, c, zs, hcs, _, hl, hm, hz, _, hcell, hwz⟩
  · simp at hcs
    subst hcs
    exact ⟨none, 0, [], rfl, Nat.le_refl _, by omega, Kd.C_nil _ _, fun n hn => by cases hn⟩
  · simp at hcs
    subst hcs
    simp only [if_true] at hz
    unfold maxLen at hm
    have hlen : (zs.take l).length = l := by rw [List.length_take]; omega
    refine ⟨some x, c, zs.take l, by rw [hlen], by omega, by omega, ?_, fun n hn => hwz n (List.mem_of_mem_take hn)⟩
    refine Kd.C_of_reads (d := (0 : Int)) (h1 := fun _ => rfl) ⟨rfl, by omega, fun _ => ⟨x, rfl, fun j hj => ?_⟩⟩
    have h1 := hcell j (by omega)
    rw [h1]
    simp [List.getD_eq_getElem?_getD, List.getElem?_take, show j < l by omega]
theorem open_Cv {t e : TypeId} {k : IntKind} {v : Value} {d : DataW H} {p : List MemPlace} {r : Reach} {b0 : Nat} (ht : P.underlying t = some (.slice e)) (he : P.underlying e = some (.int k)) (hc : P.cellsOf e = 1)
    (hv : Value.okWide P w r b0 t v) (h : DataW.Trod enc P w base (fun _ => true) held t v d p) :
    ∃ (A : Option Addr) (cap : Nat) (l : List Int), v = .slice A l.length cap ∧ l.length ≤ cap ∧ cap ≤ 9223372036854775807 ∧ (Kd.int k).C w A l.length l ∧ (∀ n ∈ l, (Lit.int k n).wf = true) := by
  obtain ⟨a, n, c, rfl⟩ := okWide_slice ht hv
  obtain ⟨fuel, hf⟩ := h
  have e1 : (Value.slice a n c).cells.toList = [.slice a n c] := by simp [Value.cells]
  rw [e1] at hf
  exact open_C ht he hc hf
end
end Go.Proofs.Ytjlfoiocceepjaa
