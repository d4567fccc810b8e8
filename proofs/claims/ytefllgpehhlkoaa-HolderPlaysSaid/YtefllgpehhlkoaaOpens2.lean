/-
  What an argument is: the rows of structs that these laws take.
-/
import Derived.Test.YtefllgpehhlkoaaOpens
namespace Go.Proofs.Ytefllgpehhlkoaa
open Go.ChangeShapes Go.WideShapes Go.ChangeAt Go.RowKit Go.Joins Go.Deep

section
variable {H : Type} {enc : TypeId × Value → H} {w : World} {base : Nat} {held : Bool}

theorem open_isRecs71 {a : Option Addr} {len cap : Nat} {d : DataW H} {p : List MemPlace} (h : DataW.Trod enc Try.prog w base (fun _ => true) held 54 (.slice a len cap) d p) : ∃ z, IsRecs w 4 a len cap z :=
  open_recs Try.underlying54 Try.underlying71 (by kernel_rfl) (by kernel_rfl) (fun j hj => by
    rcases (by omega : j = 0 ∨ j = 1 ∨ j = 2 ∨ j = 3) with rfl | rfl | rfl | rfl <;> exact ⟨_, rfl, rfl, rfl⟩) (by decide) h
theorem open_isRecs73 {a : Option Addr} {len cap : Nat} {d : DataW H} {p : List MemPlace} (h : DataW.Trod enc Try.prog w base (fun _ => true) held 69 (.slice a len cap) d p) : ∃ z, IsRecs w 6 a len cap z :=
  open_recs Try.underlying69 Try.underlying73 (by kernel_rfl) (by kernel_rfl) (fun j hj => by
    rcases (by omega : j = 0 ∨ j = 1 ∨ j = 2 ∨ j = 3 ∨ j = 4 ∨ j = 5) with rfl | rfl | rfl | rfl | rfl | rfl <;> exact ⟨_, rfl, rfl, rfl⟩) (by decide) h
theorem open_isRecs92 {a : Option Addr} {len cap : Nat} {d : DataW H} {p : List MemPlace} (h : DataW.Trod enc Try.prog w base (fun _ => true) held 86 (.slice a len cap) d p) : ∃ z, IsRecs w 8 a len cap z :=
  open_recs Try.underlying86 Try.underlying92 (by kernel_rfl) (by kernel_rfl) (fun j hj => by
    rcases (by omega : j = 0 ∨ j = 1 ∨ j = 2 ∨ j = 3 ∨ j = 4 ∨ j = 5 ∨ j = 6 ∨ j = 7) with rfl | rfl | rfl | rfl | rfl | rfl | rfl | rfl <;> exact ⟨_, rfl, rfl, rfl⟩) (by decide) h
end
end Go.Proofs.Ytefllgpehhlkoaa
