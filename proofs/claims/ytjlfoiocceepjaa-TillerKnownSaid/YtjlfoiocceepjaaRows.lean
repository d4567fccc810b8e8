/-
  No cell of these rows narrows 'for every input' (looked for: loops, veiled, ifaces, maps, wideKeys, modest, calm, conditions, laid).
  DERIVED. THE GIVEN ROWS OF THIS SEAT. 2 by the template 'for every input the law returns true; each argument reads behind the call as it read before'; 0 by the template 'total and deterministic' (their statements: YtjlfoiocceepjaaTotals.lean).
  GIVEN WITH THE SEED: the statements are not yours to turn. If you find one false, say at which input.
  Laid BY PROGRAM, IN A SANDBOX (cutbox-rows.mjs): the forced cells as the released guide's own fill.sh prints them over the translation 3d428eef4976de28… (all of the seat's roots in one cut). By AI agents, Wed Nov 11 2026. No macro, syntax, notation, axiom, sorry.
-/
import Derived.Test.YtjlfoiocceepjaaChecked
import GoSem.Claim
import GoSem.ClaimJoined
import GoSem.ClaimMapViews
import Derived.JoinedTies
import Derived.KernelRfl
namespace Go.Proofs.Ytjlfoiocceepjaa
/- THE CELL 'sum', in the pinned program and in every row, IS THE sha256 OF THE DUMP (.gsa) THAT YtjlfoiocceepjaaProg.lean LOADS. Nothing in Lean hashes anything: it is a label: what it is worth is what the hold of that sum in a sandbox is worth. -/
noncomputable def Try.pinned : Pinned := { name := "ytjlfoiocceepjaa", sum := "3d428eef4976de285fd8727a8a1d0b867dfc6e750637f58c302a4815782e2518", checked := Try.checked }
namespace Rows
def none {H : Type} : Left H := { results := [], args := [] }

/-- 'tillertop.TillerKnown': WHATEVER THE INPUT: true; the input reads as it did. -/
def tillerKnownSpec : ChangeSpec := { name := "tillerKnown", fn := fun _ => fun
  | [d1, d2, d3, d4, d5] => { results := [.lit (.bool true)], args := [d1, d2, d3, d4, d5] }
  | _ => none }
def tillerKnownRow : OpenClaim := { program := "ytjlfoiocceepjaa", sum := "3d428eef4976de285fd8727a8a1d0b867dfc6e750637f58c302a4815782e2518", func := "tiller/tillertop.TillerKnown", spec := "tillerKnown", apart := false }
def TillerKnownSaid : Prop := tillerKnownRow.holds Try.pinned (OpenSpec.ofChange tillerKnownSpec)

/-- ITS FALSE NEIGHBOUR: 'it returns false'. Refute it at one input. -/
def tillerKnownWrong : ChangeSpec := { name := "tillerKnown", fn := fun _ => fun
  | [d1, d2, d3, d4, d5] => { results := [.lit (.bool false)], args := [d1, d2, d3, d4, d5] }
  | _ => none }
def TillerKnownWrongFalsely : Prop := tillerKnownRow.holds Try.pinned (OpenSpec.ofChange tillerKnownWrong)

/-- 'tillertop.TillerCarried': WHATEVER THE INPUT: true; the input reads as it did. -/
def tillerCarriedSpec : ChangeSpec := { name := "tillerCarried", fn := fun _ => fun
  | [d1, d2] => { results := [.lit (.bool true)], args := [d1, d2] }
  | _ => none }
def tillerCarriedRow : OpenClaim := { program := "ytjlfoiocceepjaa", sum := "3d428eef4976de285fd8727a8a1d0b867dfc6e750637f58c302a4815782e2518", func := "tiller/tillertop.TillerCarried", spec := "tillerCarried", apart := false }
def TillerCarriedSaid : Prop := tillerCarriedRow.holds Try.pinned (OpenSpec.ofChange tillerCarriedSpec)

/-- ITS FALSE NEIGHBOUR: 'it returns false'. Refute it at one input. -/
def tillerCarriedWrong : ChangeSpec := { name := "tillerCarried", fn := fun _ => fun
  | [d1, d2] => { results := [.lit (.bool false)], args := [d1, d2] }
  | _ => none }
def TillerCarriedWrongFalsely : Prop := tillerCarriedRow.holds Try.pinned (OpenSpec.ofChange tillerCarriedWrong)

/- THE SECOND FORM. 'bulk': how many values and letters a reading holds, each counted each time it is reached (what is shared counts as often as it is met; a slice's spare places count too). A statement '..UptoSaid' is the law's where the arguments, and the package variables that the reading takes, are together of bulk at most 1048576: NARROWER than '..Said'. Prove '..Said' where nothing that the law and all that it calls make is longer than what came in: it says more and counts as full. Else prove '..UptoSaid'. A law counts once. -/
mutual
def uptoBulk {H : Type} : DataW H → Nat
  | .lit (.string bytes) => bytes.length + 1
  | .lit _ => 1
  | .nil => 1
  | .ptr d => uptoBulk d + 1
  | .slice elems spare => uptoBulkAll elems + uptoBulkAll spare + 1
  | .agg parts => uptoBulkAll parts + 1
  | .iface _ d => uptoBulk d + 1
  | .map entries => uptoBulkEntries entries + 1
  | .held _ => 1
def uptoBulkAll {H : Type} : List (DataW H) → Nat
  | [] => 0
  | d :: r => uptoBulk d + uptoBulkAll r
def uptoBulkEntries {H : Type} : List (Lit × DataW H) → Nat
  | [] => 0
  | x :: r => uptoBulkEntry x + uptoBulkEntries r
def uptoBulkEntry {H : Type} : Lit × DataW H → Nat
  | (.string bytes, d) => bytes.length + uptoBulk d + 1
  | (_, d) => uptoBulk d + 1
 end
def uptoSmall : (H : Type) → List (DataW H) → Bool := fun _ ds => decide (uptoBulkAll ds ≤ 1048576)
def OpenSpec.upto (s : _root_.Go.ChangeSpec) : _root_.Go.OpenSpec := { _root_.Go.OpenSpec.ofChange s with cond := some uptoSmall }

/-- 'tillertop.TillerKnown', WHERE WHAT IT READS IS OF BULK AT MOST 1048576: true; the input reads as it did. -/
def tillerKnownUptoRow : OpenClaim := { program := "ytjlfoiocceepjaa", sum := "3d428eef4976de285fd8727a8a1d0b867dfc6e750637f58c302a4815782e2518", func := "tiller/tillertop.TillerKnown", spec := "tillerKnown", apart := false, narrowed := true }
def TillerKnownUptoSaid : Prop := tillerKnownUptoRow.holds Try.pinned (OpenSpec.upto tillerKnownSpec)

/-- 'tillertop.TillerCarried', WHERE WHAT IT READS IS OF BULK AT MOST 1048576: true; the input reads as it did. -/
def tillerCarriedUptoRow : OpenClaim := { program := "ytjlfoiocceepjaa", sum := "3d428eef4976de285fd8727a8a1d0b867dfc6e750637f58c302a4815782e2518", func := "tiller/tillertop.TillerCarried", spec := "tillerCarried", apart := false, narrowed := true }
def TillerCarriedUptoSaid : Prop := tillerCarriedUptoRow.holds Try.pinned (OpenSpec.upto tillerCarriedSpec)

end Rows
end Go.Proofs.Ytjlfoiocceepjaa
