/-
  DERIVED. GIVEN WITH THE SEED: THE CARDS: each row of YtjlfoiocceepjaaDoorRows.lean that lists a variable, with what it lists TIED to the program's text (the seventh form; the later family's looks); each row that meets fmt, with fmt's text TOLD by the authors' own Lean function (tested against real Go, not proved from fmt's source: count such statements apart). THE CARD IS WHAT COUNTS. Prove the row's statement (the work); the ties are given (YtjlfoiocceepjaaDoorTie.lean); close each card by the builder's one call (the guide's Derived/Test/ToyasCard.lean, 'card_holds'). Laid BY PROGRAM, IN A SANDBOX (cutbox-door.mjs). By AI agents, Wed Nov 11 2026. No macro, syntax, notation, axiom, sorry.
-/
import Derived.Test.YtjlfoiocceepjaaDoorRows
import GoSem.ClaimSeven
namespace Go.Proofs.YtjlfoiocceepjaaDoor
namespace Rows

/-- THE TIED CARD OF 'tillerlaw14.FramePacks'. -/
def framePacksCard : Claim7 := { stood := { row := framePacksRow, standIns := [], harness := (true, "bebfb7c92d3e130894f046e4c0825488a060d2926adc9eff19f3ed19afac6a4e"), looks := true }, kinds := [], alts := [], laidByText := true, laidKinds := [.handle], laidTests := true, laidLooks := .later }
def FramePacksCardSaid : Prop := Claim7.holds Tryd.pinned (.plain (OpenSpec.ofChange framePacksSpec)) framePacksCard

/-- THE TIED CARD OF 'tillerlaw14.FrameBursts'. -/
def frameBurstsCard : Claim7 := { stood := { row := frameBurstsRow, standIns := [], harness := (true, "bebfb7c92d3e130894f046e4c0825488a060d2926adc9eff19f3ed19afac6a4e"), looks := true }, kinds := [], alts := [], laidByText := true, laidKinds := [.handle], laidTests := true, laidLooks := .later }
def FrameBurstsCardSaid : Prop := Claim7.holds Tryd.pinned (.plain (OpenSpec.ofChange frameBurstsSpec)) frameBurstsCard

/-- THE TIED CARD OF 'tillerlaw14.FrameLong'. -/
def frameLongCard : Claim7 := { stood := { row := frameLongRow, standIns := [], harness := (true, "bebfb7c92d3e130894f046e4c0825488a060d2926adc9eff19f3ed19afac6a4e"), looks := true }, kinds := [], alts := [], laidByText := true, laidKinds := [.handle], laidTests := true, laidLooks := .later }
def FrameLongCardSaid : Prop := Claim7.holds Tryd.pinned (.plain (OpenSpec.ofChange frameLongSpec)) frameLongCard

/-- THE TIED CARD OF 'tillerlaw14.FrameApart'. -/
def frameApartCard : Claim7 := { stood := { row := frameApartRow, standIns := [], harness := (true, "bebfb7c92d3e130894f046e4c0825488a060d2926adc9eff19f3ed19afac6a4e"), looks := true }, kinds := [], alts := [], laidByText := true, laidKinds := [.handle], laidTests := true, laidLooks := .later }
def FrameApartCardSaid : Prop := Claim7.holds Tryd.pinned (.plain (OpenSpec.ofChange frameApartSpec)) frameApartCard

/-- THE TIED CARD OF 'tillerlaw14.FrameSums'. -/
def frameSumsCard : Claim7 := { stood := { row := frameSumsRow, standIns := [], harness := (true, "bebfb7c92d3e130894f046e4c0825488a060d2926adc9eff19f3ed19afac6a4e"), looks := true }, kinds := [], alts := [], laidByText := true, laidKinds := [.handle], laidTests := true, laidLooks := .later }
def FrameSumsCardSaid : Prop := Claim7.holds Tryd.pinned (.plain (OpenSpec.ofChange frameSumsSpec)) frameSumsCard

/-- THE TIED CARD OF 'tillerlaw14.FrameFaults'. -/
def frameFaultsCard : Claim7 := { stood := { row := frameFaultsRow, standIns := [], harness := (true, "bebfb7c92d3e130894f046e4c0825488a060d2926adc9eff19f3ed19afac6a4e"), looks := true }, kinds := [], alts := [], laidByText := true, laidKinds := [.handle], laidTests := true, laidLooks := .later }
def FrameFaultsCardSaid : Prop := Claim7.holds Tryd.pinned (.plain (OpenSpec.ofChange frameFaultsSpec)) frameFaultsCard

/-- THE TIED CARD OF 'tillerlaw15.WireApart'. -/
def wireApartCard : Claim7 := { stood := { row := wireApartRow, standIns := [], harness := (true, "bebfb7c92d3e130894f046e4c0825488a060d2926adc9eff19f3ed19afac6a4e"), looks := true }, kinds := [], alts := [], laidByText := true, laidKinds := [.handle], laidTests := true, laidLooks := .later }
def WireApartCardSaid : Prop := Claim7.holds Tryd.pinned (.plain (OpenSpec.ofChange wireApartSpec)) wireApartCard

/-- THE TIED CARD OF 'tillerlaw15.WireNumbers'. -/
def wireNumbersCard : Claim7 := { stood := { row := wireNumbersRow, standIns := [], harness := (true, "bebfb7c92d3e130894f046e4c0825488a060d2926adc9eff19f3ed19afac6a4e"), looks := true }, kinds := [], alts := [], laidByText := true, laidKinds := [.handle], laidTests := true, laidLooks := .later }
def WireNumbersCardSaid : Prop := Claim7.holds Tryd.pinned (.plain (OpenSpec.ofChange wireNumbersSpec)) wireNumbersCard

/-- THE TIED CARD OF 'tillerlaw15.WireWrites'. -/
def wireWritesCard : Claim7 := { stood := { row := wireWritesRow, standIns := [], harness := (true, "bebfb7c92d3e130894f046e4c0825488a060d2926adc9eff19f3ed19afac6a4e"), looks := true }, kinds := [], alts := [], laidByText := true, laidKinds := [.handle], laidTests := true, laidLooks := .later }
def WireWritesCardSaid : Prop := Claim7.holds Tryd.pinned (.plain (OpenSpec.ofChange wireWritesSpec)) wireWritesCard

/-- THE TIED CARD OF 'tillerlaw15.WireBursts'. -/
def wireBurstsCard : Claim7 := { stood := { row := wireBurstsRow, standIns := [], harness := (true, "bebfb7c92d3e130894f046e4c0825488a060d2926adc9eff19f3ed19afac6a4e"), looks := true }, kinds := [], alts := [], laidByText := true, laidKinds := [.handle], laidTests := true, laidLooks := .later }
def WireBurstsCardSaid : Prop := Claim7.holds Tryd.pinned (.plain (OpenSpec.ofChange wireBurstsSpec)) wireBurstsCard

/-- THE TIED CARD OF 'tillerlaw15.WireBads'. -/
def wireBadsCard : Claim7 := { stood := { row := wireBadsRow, standIns := [], harness := (true, "bebfb7c92d3e130894f046e4c0825488a060d2926adc9eff19f3ed19afac6a4e"), looks := true }, kinds := [], alts := [], laidByText := true, laidKinds := [.handle], laidTests := true, laidLooks := .later }
def WireBadsCardSaid : Prop := Claim7.holds Tryd.pinned (.plain (OpenSpec.ofChange wireBadsSpec)) wireBadsCard

/-- THE SECOND FORM's CARD OF 'tillerlaw14.FramePacks'. -/
def framePacksUptoCard : Claim7 := { stood := { row := framePacksUptoRow, standIns := [], harness := (true, "bebfb7c92d3e130894f046e4c0825488a060d2926adc9eff19f3ed19afac6a4e"), looks := true }, kinds := [], alts := [], laidByText := true, laidKinds := [.handle], laidTests := true, laidLooks := .later }
def FramePacksUptoCardSaid : Prop := Claim7.holds Tryd.pinned (.plain (OpenSpec.upto framePacksSpec)) framePacksUptoCard

/-- THE SECOND FORM's CARD OF 'tillerlaw14.FrameBursts'. -/
def frameBurstsUptoCard : Claim7 := { stood := { row := frameBurstsUptoRow, standIns := [], harness := (true, "bebfb7c92d3e130894f046e4c0825488a060d2926adc9eff19f3ed19afac6a4e"), looks := true }, kinds := [], alts := [], laidByText := true, laidKinds := [.handle], laidTests := true, laidLooks := .later }
def FrameBurstsUptoCardSaid : Prop := Claim7.holds Tryd.pinned (.plain (OpenSpec.upto frameBurstsSpec)) frameBurstsUptoCard

/-- THE SECOND FORM's CARD OF 'tillerlaw14.FrameLong'. -/
def frameLongUptoCard : Claim7 := { stood := { row := frameLongUptoRow, standIns := [], harness := (true, "bebfb7c92d3e130894f046e4c0825488a060d2926adc9eff19f3ed19afac6a4e"), looks := true }, kinds := [], alts := [], laidByText := true, laidKinds := [.handle], laidTests := true, laidLooks := .later }
def FrameLongUptoCardSaid : Prop := Claim7.holds Tryd.pinned (.plain (OpenSpec.upto frameLongSpec)) frameLongUptoCard

/-- THE SECOND FORM's CARD OF 'tillerlaw14.FrameApart'. -/
def frameApartUptoCard : Claim7 := { stood := { row := frameApartUptoRow, standIns := [], harness := (true, "bebfb7c92d3e130894f046e4c0825488a060d2926adc9eff19f3ed19afac6a4e"), looks := true }, kinds := [], alts := [], laidByText := true, laidKinds := [.handle], laidTests := true, laidLooks := .later }
def FrameApartUptoCardSaid : Prop := Claim7.holds Tryd.pinned (.plain (OpenSpec.upto frameApartSpec)) frameApartUptoCard

/-- THE SECOND FORM's CARD OF 'tillerlaw14.FrameSums'. -/
def frameSumsUptoCard : Claim7 := { stood := { row := frameSumsUptoRow, standIns := [], harness := (true, "bebfb7c92d3e130894f046e4c0825488a060d2926adc9eff19f3ed19afac6a4e"), looks := true }, kinds := [], alts := [], laidByText := true, laidKinds := [.handle], laidTests := true, laidLooks := .later }
def FrameSumsUptoCardSaid : Prop := Claim7.holds Tryd.pinned (.plain (OpenSpec.upto frameSumsSpec)) frameSumsUptoCard

/-- THE SECOND FORM's CARD OF 'tillerlaw14.FrameFaults'. -/
def frameFaultsUptoCard : Claim7 := { stood := { row := frameFaultsUptoRow, standIns := [], harness := (true, "bebfb7c92d3e130894f046e4c0825488a060d2926adc9eff19f3ed19afac6a4e"), looks := true }, kinds := [], alts := [], laidByText := true, laidKinds := [.handle], laidTests := true, laidLooks := .later }
def FrameFaultsUptoCardSaid : Prop := Claim7.holds Tryd.pinned (.plain (OpenSpec.upto frameFaultsSpec)) frameFaultsUptoCard

/-- THE SECOND FORM's CARD OF 'tillerlaw15.WireApart'. -/
def wireApartUptoCard : Claim7 := { stood := { row := wireApartUptoRow, standIns := [], harness := (true, "bebfb7c92d3e130894f046e4c0825488a060d2926adc9eff19f3ed19afac6a4e"), looks := true }, kinds := [], alts := [], laidByText := true, laidKinds := [.handle], laidTests := true, laidLooks := .later }
def WireApartUptoCardSaid : Prop := Claim7.holds Tryd.pinned (.plain (OpenSpec.upto wireApartSpec)) wireApartUptoCard

/-- THE SECOND FORM's CARD OF 'tillerlaw15.WireNumbers'. -/
def wireNumbersUptoCard : Claim7 := { stood := { row := wireNumbersUptoRow, standIns := [], harness := (true, "bebfb7c92d3e130894f046e4c0825488a060d2926adc9eff19f3ed19afac6a4e"), looks := true }, kinds := [], alts := [], laidByText := true, laidKinds := [.handle], laidTests := true, laidLooks := .later }
def WireNumbersUptoCardSaid : Prop := Claim7.holds Tryd.pinned (.plain (OpenSpec.upto wireNumbersSpec)) wireNumbersUptoCard

/-- THE SECOND FORM's CARD OF 'tillerlaw15.WireWrites'. -/
def wireWritesUptoCard : Claim7 := { stood := { row := wireWritesUptoRow, standIns := [], harness := (true, "bebfb7c92d3e130894f046e4c0825488a060d2926adc9eff19f3ed19afac6a4e"), looks := true }, kinds := [], alts := [], laidByText := true, laidKinds := [.handle], laidTests := true, laidLooks := .later }
def WireWritesUptoCardSaid : Prop := Claim7.holds Tryd.pinned (.plain (OpenSpec.upto wireWritesSpec)) wireWritesUptoCard

/-- THE SECOND FORM's CARD OF 'tillerlaw15.WireBursts'. -/
def wireBurstsUptoCard : Claim7 := { stood := { row := wireBurstsUptoRow, standIns := [], harness := (true, "bebfb7c92d3e130894f046e4c0825488a060d2926adc9eff19f3ed19afac6a4e"), looks := true }, kinds := [], alts := [], laidByText := true, laidKinds := [.handle], laidTests := true, laidLooks := .later }
def WireBurstsUptoCardSaid : Prop := Claim7.holds Tryd.pinned (.plain (OpenSpec.upto wireBurstsSpec)) wireBurstsUptoCard

/-- THE SECOND FORM's CARD OF 'tillerlaw15.WireBads'. -/
def wireBadsUptoCard : Claim7 := { stood := { row := wireBadsUptoRow, standIns := [], harness := (true, "bebfb7c92d3e130894f046e4c0825488a060d2926adc9eff19f3ed19afac6a4e"), looks := true }, kinds := [], alts := [], laidByText := true, laidKinds := [.handle], laidTests := true, laidLooks := .later }
def WireBadsUptoCardSaid : Prop := Claim7.holds Tryd.pinned (.plain (OpenSpec.upto wireBadsSpec)) wireBadsUptoCard
end Rows
end Go.Proofs.YtjlfoiocceepjaaDoor
