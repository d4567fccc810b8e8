/-
  No cell of these rows narrows 'for every input' (looked for: loops, veiled, ifaces, maps, wideKeys, modest, calm, conditions, laid).
  DERIVED. THE GIVEN ROWS OF THIS SEAT. 12 by the template 'for every input the law returns true; each argument reads behind the call as it read before'; 0 by the template 'total and deterministic' (their statements: YtefllgpehhlkoaaTotals.lean).
  GIVEN WITH THE SEED: the statements are not yours to turn. If you find one false, say at which input.
  Laid BY PROGRAM, IN A SANDBOX (cutbox-rows.mjs): the forced cells as the released guide's own fill.sh prints them over the translation 671c91808c459f2d… (all of the seat's roots in one cut). By AI agents, Wed Nov 11 2026. No macro, syntax, notation, axiom, sorry.
-/
import Derived.Test.YtefllgpehhlkoaaChecked
import GoSem.Claim
import GoSem.ClaimJoined
import GoSem.ClaimMapViews
import Derived.JoinedTies
import Derived.KernelRfl
namespace Go.Proofs.Ytefllgpehhlkoaa
/- THE CELL 'sum', in the pinned program and in every row, IS THE sha256 OF THE DUMP (.gsa) THAT YtefllgpehhlkoaaProg.lean LOADS. Nothing in Lean hashes anything: it is a label: what it is worth is what the hold of that sum in a sandbox is worth. -/
noncomputable def Try.pinned : Pinned := { name := "ytefllgpehhlkoaa", sum := "671c91808c459f2d59b04196d7adf3b3f8a5463b8da3f6719388917947aa0f7c", checked := Try.checked }
namespace Rows
def none {H : Type} : Left H := { results := [], args := [] }

/-- 'tillerlaw17.ClockPlays': WHATEVER THE INPUT: true; the input reads as it did. -/
def clockPlaysSpec : ChangeSpec := { name := "clockPlays", fn := fun _ => fun
  | [d1, d2] => { results := [.lit (.bool true)], args := [d1, d2] }
  | _ => none }
def clockPlaysRow : OpenClaim := { program := "ytefllgpehhlkoaa", sum := "671c91808c459f2d59b04196d7adf3b3f8a5463b8da3f6719388917947aa0f7c", func := "tiller/tillerlaw17.ClockPlays", spec := "clockPlays", apart := false }
def ClockPlaysSaid : Prop := clockPlaysRow.holds Try.pinned (OpenSpec.ofChange clockPlaysSpec)

/-- ITS FALSE NEIGHBOUR: 'it returns false'. Refute it at one input. -/
def clockPlaysWrong : ChangeSpec := { name := "clockPlays", fn := fun _ => fun
  | [d1, d2] => { results := [.lit (.bool false)], args := [d1, d2] }
  | _ => none }
def ClockPlaysWrongFalsely : Prop := clockPlaysRow.holds Try.pinned (OpenSpec.ofChange clockPlaysWrong)

/-- 'tillerlaw17.ClockSums': WHATEVER THE INPUT: true; the input reads as it did. -/
def clockSumsSpec : ChangeSpec := { name := "clockSums", fn := fun _ => fun
  | [d1, d2, d3] => { results := [.lit (.bool true)], args := [d1, d2, d3] }
  | _ => none }
def clockSumsRow : OpenClaim := { program := "ytefllgpehhlkoaa", sum := "671c91808c459f2d59b04196d7adf3b3f8a5463b8da3f6719388917947aa0f7c", func := "tiller/tillerlaw17.ClockSums", spec := "clockSums", apart := false }
def ClockSumsSaid : Prop := clockSumsRow.holds Try.pinned (OpenSpec.ofChange clockSumsSpec)

/-- ITS FALSE NEIGHBOUR: 'it returns false'. Refute it at one input. -/
def clockSumsWrong : ChangeSpec := { name := "clockSums", fn := fun _ => fun
  | [d1, d2, d3] => { results := [.lit (.bool false)], args := [d1, d2, d3] }
  | _ => none }
def ClockSumsWrongFalsely : Prop := clockSumsRow.holds Try.pinned (OpenSpec.ofChange clockSumsWrong)

/-- 'tillerlaw19.HolderEarly': WHATEVER THE INPUT: true; the input reads as it did. -/
def holderEarlySpec : ChangeSpec := { name := "holderEarly", fn := fun _ => fun
  | [d1, d2, d3, d4] => { results := [.lit (.bool true)], args := [d1, d2, d3, d4] }
  | _ => none }
def holderEarlyRow : OpenClaim := { program := "ytefllgpehhlkoaa", sum := "671c91808c459f2d59b04196d7adf3b3f8a5463b8da3f6719388917947aa0f7c", func := "tiller/tillerlaw19.HolderEarly", spec := "holderEarly", inPlace := ["maps.clone"], apart := false }
def HolderEarlySaid : Prop := holderEarlyRow.holds Try.pinned (OpenSpec.ofChange holderEarlySpec)

/-- ITS FALSE NEIGHBOUR: 'it returns false'. Refute it at one input. -/
def holderEarlyWrong : ChangeSpec := { name := "holderEarly", fn := fun _ => fun
  | [d1, d2, d3, d4] => { results := [.lit (.bool false)], args := [d1, d2, d3, d4] }
  | _ => none }
def HolderEarlyWrongFalsely : Prop := holderEarlyRow.holds Try.pinned (OpenSpec.ofChange holderEarlyWrong)

/-- 'tillerlaw17.ClockStretches': WHATEVER THE INPUT: true; the input reads as it did. -/
def clockStretchesSpec : ChangeSpec := { name := "clockStretches", fn := fun _ => fun
  | [d1, d2, d3, d4] => { results := [.lit (.bool true)], args := [d1, d2, d3, d4] }
  | _ => none }
def clockStretchesRow : OpenClaim := { program := "ytefllgpehhlkoaa", sum := "671c91808c459f2d59b04196d7adf3b3f8a5463b8da3f6719388917947aa0f7c", func := "tiller/tillerlaw17.ClockStretches", spec := "clockStretches", apart := false }
def ClockStretchesSaid : Prop := clockStretchesRow.holds Try.pinned (OpenSpec.ofChange clockStretchesSpec)

/-- ITS FALSE NEIGHBOUR: 'it returns false'. Refute it at one input. -/
def clockStretchesWrong : ChangeSpec := { name := "clockStretches", fn := fun _ => fun
  | [d1, d2, d3, d4] => { results := [.lit (.bool false)], args := [d1, d2, d3, d4] }
  | _ => none }
def ClockStretchesWrongFalsely : Prop := clockStretchesRow.holds Try.pinned (OpenSpec.ofChange clockStretchesWrong)

/-- 'tillerlaw19.HolderLives': WHATEVER THE INPUT: true; the input reads as it did. -/
def holderLivesSpec : ChangeSpec := { name := "holderLives", fn := fun _ => fun
  | [d1, d2] => { results := [.lit (.bool true)], args := [d1, d2] }
  | _ => none }
def holderLivesRow : OpenClaim := { program := "ytefllgpehhlkoaa", sum := "671c91808c459f2d59b04196d7adf3b3f8a5463b8da3f6719388917947aa0f7c", func := "tiller/tillerlaw19.HolderLives", spec := "holderLives", inPlace := ["maps.clone"], apart := false }
def HolderLivesSaid : Prop := holderLivesRow.holds Try.pinned (OpenSpec.ofChange holderLivesSpec)

/-- ITS FALSE NEIGHBOUR: 'it returns false'. Refute it at one input. -/
def holderLivesWrong : ChangeSpec := { name := "holderLives", fn := fun _ => fun
  | [d1, d2] => { results := [.lit (.bool false)], args := [d1, d2] }
  | _ => none }
def HolderLivesWrongFalsely : Prop := holderLivesRow.holds Try.pinned (OpenSpec.ofChange holderLivesWrong)

/-- 'tillerlaw18.LeaseQuiet': WHATEVER THE INPUT: true; the input reads as it did. -/
def leaseQuietSpec : ChangeSpec := { name := "leaseQuiet", fn := fun _ => fun
  | [d1, d2, d3, d4, d5, d6, d7] => { results := [.lit (.bool true)], args := [d1, d2, d3, d4, d5, d6, d7] }
  | _ => none }
def leaseQuietRow : OpenClaim := { program := "ytefllgpehhlkoaa", sum := "671c91808c459f2d59b04196d7adf3b3f8a5463b8da3f6719388917947aa0f7c", func := "tiller/tillerlaw18.LeaseQuiet", spec := "leaseQuiet", inPlace := ["maps.clone"], unfollowed := true, recurses := true, apart := false }
def LeaseQuietSaid : Prop := leaseQuietRow.holds Try.pinned (OpenSpec.ofChange leaseQuietSpec)

/-- ITS FALSE NEIGHBOUR: 'it returns false'. Refute it at one input. -/
def leaseQuietWrong : ChangeSpec := { name := "leaseQuiet", fn := fun _ => fun
  | [d1, d2, d3, d4, d5, d6, d7] => { results := [.lit (.bool false)], args := [d1, d2, d3, d4, d5, d6, d7] }
  | _ => none }
def LeaseQuietWrongFalsely : Prop := leaseQuietRow.holds Try.pinned (OpenSpec.ofChange leaseQuietWrong)

/-- 'tillerlaw18.LeaseBack': WHATEVER THE INPUT: true; the input reads as it did. -/
def leaseBackSpec : ChangeSpec := { name := "leaseBack", fn := fun _ => fun
  | [d1, d2, d3, d4, d5, d6, d7] => { results := [.lit (.bool true)], args := [d1, d2, d3, d4, d5, d6, d7] }
  | _ => none }
def leaseBackRow : OpenClaim := { program := "ytefllgpehhlkoaa", sum := "671c91808c459f2d59b04196d7adf3b3f8a5463b8da3f6719388917947aa0f7c", func := "tiller/tillerlaw18.LeaseBack", spec := "leaseBack", inPlace := ["maps.clone"], unfollowed := true, recurses := true, apart := false }
def LeaseBackSaid : Prop := leaseBackRow.holds Try.pinned (OpenSpec.ofChange leaseBackSpec)

/-- ITS FALSE NEIGHBOUR: 'it returns false'. Refute it at one input. -/
def leaseBackWrong : ChangeSpec := { name := "leaseBack", fn := fun _ => fun
  | [d1, d2, d3, d4, d5, d6, d7] => { results := [.lit (.bool false)], args := [d1, d2, d3, d4, d5, d6, d7] }
  | _ => none }
def LeaseBackWrongFalsely : Prop := leaseBackRow.holds Try.pinned (OpenSpec.ofChange leaseBackWrong)

/-- 'tillerlaw18.LeasePlays': WHATEVER THE INPUT: true; the input reads as it did. -/
def leasePlaysSpec : ChangeSpec := { name := "leasePlays", fn := fun _ => fun
  | [d1, d2, d3, d4] => { results := [.lit (.bool true)], args := [d1, d2, d3, d4] }
  | _ => none }
def leasePlaysRow : OpenClaim := { program := "ytefllgpehhlkoaa", sum := "671c91808c459f2d59b04196d7adf3b3f8a5463b8da3f6719388917947aa0f7c", func := "tiller/tillerlaw18.LeasePlays", spec := "leasePlays", inPlace := ["maps.clone"], unfollowed := true, recurses := true, apart := false }
def LeasePlaysSaid : Prop := leasePlaysRow.holds Try.pinned (OpenSpec.ofChange leasePlaysSpec)

/-- ITS FALSE NEIGHBOUR: 'it returns false'. Refute it at one input. -/
def leasePlaysWrong : ChangeSpec := { name := "leasePlays", fn := fun _ => fun
  | [d1, d2, d3, d4] => { results := [.lit (.bool false)], args := [d1, d2, d3, d4] }
  | _ => none }
def LeasePlaysWrongFalsely : Prop := leasePlaysRow.holds Try.pinned (OpenSpec.ofChange leasePlaysWrong)

/-- 'tillerlaw18.LeaseEpochs': WHATEVER THE INPUT: true; the input reads as it did. -/
def leaseEpochsSpec : ChangeSpec := { name := "leaseEpochs", fn := fun _ => fun
  | [d] => { results := [.lit (.bool true)], args := [d] }
  | _ => none }
def leaseEpochsRow : OpenClaim := { program := "ytefllgpehhlkoaa", sum := "671c91808c459f2d59b04196d7adf3b3f8a5463b8da3f6719388917947aa0f7c", func := "tiller/tillerlaw18.LeaseEpochs", spec := "leaseEpochs", inPlace := ["maps.clone"], unfollowed := true, recurses := true, apart := false }
def LeaseEpochsSaid : Prop := leaseEpochsRow.holds Try.pinned (OpenSpec.ofChange leaseEpochsSpec)

/-- ITS FALSE NEIGHBOUR: 'it returns false'. Refute it at one input. -/
def leaseEpochsWrong : ChangeSpec := { name := "leaseEpochs", fn := fun _ => fun
  | [d] => { results := [.lit (.bool false)], args := [d] }
  | _ => none }
def LeaseEpochsWrongFalsely : Prop := leaseEpochsRow.holds Try.pinned (OpenSpec.ofChange leaseEpochsWrong)

/-- 'tillerlaw19.HolderPlays': WHATEVER THE INPUT: true; the input reads as it did. -/
def holderPlaysSpec : ChangeSpec := { name := "holderPlays", fn := fun _ => fun
  | [d1, d2, d3] => { results := [.lit (.bool true)], args := [d1, d2, d3] }
  | _ => none }
def holderPlaysRow : OpenClaim := { program := "ytefllgpehhlkoaa", sum := "671c91808c459f2d59b04196d7adf3b3f8a5463b8da3f6719388917947aa0f7c", func := "tiller/tillerlaw19.HolderPlays", spec := "holderPlays", inPlace := ["maps.clone"], apart := false }
def HolderPlaysSaid : Prop := holderPlaysRow.holds Try.pinned (OpenSpec.ofChange holderPlaysSpec)

/-- ITS FALSE NEIGHBOUR: 'it returns false'. Refute it at one input. -/
def holderPlaysWrong : ChangeSpec := { name := "holderPlays", fn := fun _ => fun
  | [d1, d2, d3] => { results := [.lit (.bool false)], args := [d1, d2, d3] }
  | _ => none }
def HolderPlaysWrongFalsely : Prop := holderPlaysRow.holds Try.pinned (OpenSpec.ofChange holderPlaysWrong)

/-- 'tillertop.TillerTurns': WHATEVER THE INPUT: true; the input reads as it did. -/
def tillerTurnsSpec : ChangeSpec := { name := "tillerTurns", fn := fun _ => fun
  | [d1, d2, d3, d4] => { results := [.lit (.bool true)], args := [d1, d2, d3, d4] }
  | _ => none }
def tillerTurnsRow : OpenClaim := { program := "ytefllgpehhlkoaa", sum := "671c91808c459f2d59b04196d7adf3b3f8a5463b8da3f6719388917947aa0f7c", func := "tiller/tillertop.TillerTurns", spec := "tillerTurns", inPlace := ["maps.clone"], unfollowed := true, recurses := true, apart := false }
def TillerTurnsSaid : Prop := tillerTurnsRow.holds Try.pinned (OpenSpec.ofChange tillerTurnsSpec)

/-- ITS FALSE NEIGHBOUR: 'it returns false'. Refute it at one input. -/
def tillerTurnsWrong : ChangeSpec := { name := "tillerTurns", fn := fun _ => fun
  | [d1, d2, d3, d4] => { results := [.lit (.bool false)], args := [d1, d2, d3, d4] }
  | _ => none }
def TillerTurnsWrongFalsely : Prop := tillerTurnsRow.holds Try.pinned (OpenSpec.ofChange tillerTurnsWrong)

/-- 'tillerlaw19.HolderMargin': WHATEVER THE INPUT: true; the input reads as it did. -/
def holderMarginSpec : ChangeSpec := { name := "holderMargin", fn := fun _ => fun
  | [d1, d2, d3] => { results := [.lit (.bool true)], args := [d1, d2, d3] }
  | _ => none }
def holderMarginRow : OpenClaim := { program := "ytefllgpehhlkoaa", sum := "671c91808c459f2d59b04196d7adf3b3f8a5463b8da3f6719388917947aa0f7c", func := "tiller/tillerlaw19.HolderMargin", spec := "holderMargin", inPlace := ["maps.clone"], unfollowed := true, recurses := true, apart := false }
def HolderMarginSaid : Prop := holderMarginRow.holds Try.pinned (OpenSpec.ofChange holderMarginSpec)

/-- ITS FALSE NEIGHBOUR: 'it returns false'. Refute it at one input. -/
def holderMarginWrong : ChangeSpec := { name := "holderMargin", fn := fun _ => fun
  | [d1, d2, d3] => { results := [.lit (.bool false)], args := [d1, d2, d3] }
  | _ => none }
def HolderMarginWrongFalsely : Prop := holderMarginRow.holds Try.pinned (OpenSpec.ofChange holderMarginWrong)

/- THE SECOND FORM. 'bulk': how many values and letters a reading holds, each counted each time it is reached (what is shared counts as often as it is met; a slice's spare places count too). A statement '..UptoSaid' is the law's where the arguments, and the package variables that the reading takes, are together of bulk at most 1048576: NARROWER than '..Said'. Prove '..Said' where nothing that the law and all that it calls make is longer than what came in: it says more and counts as full. Else prove '..UptoSaid'. A law counts once. -/
mutual
def uptoBulk {H : Type} : DataW H → Nat
  | .lit (.string bytes) => bytes.length + 1
  | .lit _ => 1
  | .nil => 1
  | .ptr d => uptoBulk d + 1
  | .slice elems spare => uptoBulkAll elems + uptoBulkAll spare + 1
  | .agg parts => uptoBulkAll parts + 1
  | .iface _ d => uptoBulk d + 1
  | .map entries => uptoBulkEntries entries + 1
  | .held _ => 1
def uptoBulkAll {H : Type} : List (DataW H) → Nat
  | [] => 0
  | d :: r => uptoBulk d + uptoBulkAll r
def uptoBulkEntries {H : Type} : List (Lit × DataW H) → Nat
  | [] => 0
  | x :: r => uptoBulkEntry x + uptoBulkEntries r
def uptoBulkEntry {H : Type} : Lit × DataW H → Nat
  | (.string bytes, d) => bytes.length + uptoBulk d + 1
  | (_, d) => uptoBulk d + 1
 end
def uptoSmall : (H : Type) → List (DataW H) → Bool := fun _ ds => decide (uptoBulkAll ds ≤ 1048576)
def OpenSpec.upto (s : _root_.Go.ChangeSpec) : _root_.Go.OpenSpec := { _root_.Go.OpenSpec.ofChange s with cond := some uptoSmall }

/-- 'tillerlaw17.ClockPlays', WHERE WHAT IT READS IS OF BULK AT MOST 1048576: true; the input reads as it did. -/
def clockPlaysUptoRow : OpenClaim := { program := "ytefllgpehhlkoaa", sum := "671c91808c459f2d59b04196d7adf3b3f8a5463b8da3f6719388917947aa0f7c", func := "tiller/tillerlaw17.ClockPlays", spec := "clockPlays", apart := false, narrowed := true }
def ClockPlaysUptoSaid : Prop := clockPlaysUptoRow.holds Try.pinned (OpenSpec.upto clockPlaysSpec)

/-- 'tillerlaw17.ClockSums', WHERE WHAT IT READS IS OF BULK AT MOST 1048576: true; the input reads as it did. -/
def clockSumsUptoRow : OpenClaim := { program := "ytefllgpehhlkoaa", sum := "671c91808c459f2d59b04196d7adf3b3f8a5463b8da3f6719388917947aa0f7c", func := "tiller/tillerlaw17.ClockSums", spec := "clockSums", apart := false, narrowed := true }
def ClockSumsUptoSaid : Prop := clockSumsUptoRow.holds Try.pinned (OpenSpec.upto clockSumsSpec)

/-- 'tillerlaw19.HolderEarly', WHERE WHAT IT READS IS OF BULK AT MOST 1048576: true; the input reads as it did. -/
def holderEarlyUptoRow : OpenClaim := { program := "ytefllgpehhlkoaa", sum := "671c91808c459f2d59b04196d7adf3b3f8a5463b8da3f6719388917947aa0f7c", func := "tiller/tillerlaw19.HolderEarly", spec := "holderEarly", inPlace := ["maps.clone"], apart := false, narrowed := true }
def HolderEarlyUptoSaid : Prop := holderEarlyUptoRow.holds Try.pinned (OpenSpec.upto holderEarlySpec)

/-- 'tillerlaw17.ClockStretches', WHERE WHAT IT READS IS OF BULK AT MOST 1048576: true; the input reads as it did. -/
def clockStretchesUptoRow : OpenClaim := { program := "ytefllgpehhlkoaa", sum := "671c91808c459f2d59b04196d7adf3b3f8a5463b8da3f6719388917947aa0f7c", func := "tiller/tillerlaw17.ClockStretches", spec := "clockStretches", apart := false, narrowed := true }
def ClockStretchesUptoSaid : Prop := clockStretchesUptoRow.holds Try.pinned (OpenSpec.upto clockStretchesSpec)

/-- 'tillerlaw19.HolderLives', WHERE WHAT IT READS IS OF BULK AT MOST 1048576: true; the input reads as it did. -/
def holderLivesUptoRow : OpenClaim := { program := "ytefllgpehhlkoaa", sum := "671c91808c459f2d59b04196d7adf3b3f8a5463b8da3f6719388917947aa0f7c", func := "tiller/tillerlaw19.HolderLives", spec := "holderLives", inPlace := ["maps.clone"], apart := false, narrowed := true }
def HolderLivesUptoSaid : Prop := holderLivesUptoRow.holds Try.pinned (OpenSpec.upto holderLivesSpec)

/-- 'tillerlaw18.LeaseQuiet', WHERE WHAT IT READS IS OF BULK AT MOST 1048576: true; the input reads as it did. -/
def leaseQuietUptoRow : OpenClaim := { program := "ytefllgpehhlkoaa", sum := "671c91808c459f2d59b04196d7adf3b3f8a5463b8da3f6719388917947aa0f7c", func := "tiller/tillerlaw18.LeaseQuiet", spec := "leaseQuiet", inPlace := ["maps.clone"], unfollowed := true, recurses := true, apart := false, narrowed := true }
def LeaseQuietUptoSaid : Prop := leaseQuietUptoRow.holds Try.pinned (OpenSpec.upto leaseQuietSpec)

/-- 'tillerlaw18.LeaseBack', WHERE WHAT IT READS IS OF BULK AT MOST 1048576: true; the input reads as it did. -/
def leaseBackUptoRow : OpenClaim := { program := "ytefllgpehhlkoaa", sum := "671c91808c459f2d59b04196d7adf3b3f8a5463b8da3f6719388917947aa0f7c", func := "tiller/tillerlaw18.LeaseBack", spec := "leaseBack", inPlace := ["maps.clone"], unfollowed := true, recurses := true, apart := false, narrowed := true }
def LeaseBackUptoSaid : Prop := leaseBackUptoRow.holds Try.pinned (OpenSpec.upto leaseBackSpec)

/-- 'tillerlaw18.LeasePlays', WHERE WHAT IT READS IS OF BULK AT MOST 1048576: true; the input reads as it did. -/
def leasePlaysUptoRow : OpenClaim := { program := "ytefllgpehhlkoaa", sum := "671c91808c459f2d59b04196d7adf3b3f8a5463b8da3f6719388917947aa0f7c", func := "tiller/tillerlaw18.LeasePlays", spec := "leasePlays", inPlace := ["maps.clone"], unfollowed := true, recurses := true, apart := false, narrowed := true }
def LeasePlaysUptoSaid : Prop := leasePlaysUptoRow.holds Try.pinned (OpenSpec.upto leasePlaysSpec)

/-- 'tillerlaw18.LeaseEpochs', WHERE WHAT IT READS IS OF BULK AT MOST 1048576: true; the input reads as it did. -/
def leaseEpochsUptoRow : OpenClaim := { program := "ytefllgpehhlkoaa", sum := "671c91808c459f2d59b04196d7adf3b3f8a5463b8da3f6719388917947aa0f7c", func := "tiller/tillerlaw18.LeaseEpochs", spec := "leaseEpochs", inPlace := ["maps.clone"], unfollowed := true, recurses := true, apart := false, narrowed := true }
def LeaseEpochsUptoSaid : Prop := leaseEpochsUptoRow.holds Try.pinned (OpenSpec.upto leaseEpochsSpec)

/-- 'tillerlaw19.HolderPlays', WHERE WHAT IT READS IS OF BULK AT MOST 1048576: true; the input reads as it did. -/
def holderPlaysUptoRow : OpenClaim := { program := "ytefllgpehhlkoaa", sum := "671c91808c459f2d59b04196d7adf3b3f8a5463b8da3f6719388917947aa0f7c", func := "tiller/tillerlaw19.HolderPlays", spec := "holderPlays", inPlace := ["maps.clone"], apart := false, narrowed := true }
def HolderPlaysUptoSaid : Prop := holderPlaysUptoRow.holds Try.pinned (OpenSpec.upto holderPlaysSpec)

/-- 'tillertop.TillerTurns', WHERE WHAT IT READS IS OF BULK AT MOST 1048576: true; the input reads as it did. -/
def tillerTurnsUptoRow : OpenClaim := { program := "ytefllgpehhlkoaa", sum := "671c91808c459f2d59b04196d7adf3b3f8a5463b8da3f6719388917947aa0f7c", func := "tiller/tillertop.TillerTurns", spec := "tillerTurns", inPlace := ["maps.clone"], unfollowed := true, recurses := true, apart := false, narrowed := true }
def TillerTurnsUptoSaid : Prop := tillerTurnsUptoRow.holds Try.pinned (OpenSpec.upto tillerTurnsSpec)

/-- 'tillerlaw19.HolderMargin', WHERE WHAT IT READS IS OF BULK AT MOST 1048576: true; the input reads as it did. -/
def holderMarginUptoRow : OpenClaim := { program := "ytefllgpehhlkoaa", sum := "671c91808c459f2d59b04196d7adf3b3f8a5463b8da3f6719388917947aa0f7c", func := "tiller/tillerlaw19.HolderMargin", spec := "holderMargin", inPlace := ["maps.clone"], unfollowed := true, recurses := true, apart := false, narrowed := true }
def HolderMarginUptoSaid : Prop := holderMarginUptoRow.holds Try.pinned (OpenSpec.upto holderMarginSpec)

end Rows
end Go.Proofs.Ytefllgpehhlkoaa
