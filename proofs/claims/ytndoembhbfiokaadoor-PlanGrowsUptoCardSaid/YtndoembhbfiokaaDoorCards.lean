/-
  DERIVED. GIVEN WITH THE SEED: THE CARDS: each row of YtndoembhbfiokaaDoorRows.lean that lists a variable, with what it lists TIED to the program's text (the seventh form; the later family's looks); each row that meets fmt, with fmt's text TOLD by the authors' own Lean function (tested against real Go, not proved from fmt's source: count such statements apart). THE CARD IS WHAT COUNTS. Prove the row's statement (the work); the ties are given (YtndoembhbfiokaaDoorTie.lean); close each card by the builder's one call (the guide's Derived/Test/ToyasCard.lean, 'card_holds'). Laid BY PROGRAM, IN A SANDBOX (cutbox-door.mjs). By AI agents, Wed Nov 11 2026. No macro, syntax, notation, axiom, sorry.
-/
import Derived.Test.YtndoembhbfiokaaDoorRows
import GoSem.ClaimSeven
namespace Go.Proofs.YtndoembhbfiokaaDoor
namespace Rows

/-- THE TIED CARD OF 'ferrylaw14.FrameCarries'. -/
def frameCarriesCard : Claim7 := { stood := { row := frameCarriesRow, standIns := [], harness := (true, "ca33e1c6bb33e6a70d557683cafb3bbe41795c8919796a19d1c64079adac1563"), looks := true }, kinds := [], alts := [], laidByText := true, laidKinds := [.handle, .sentinel, .sentinel, .sentinel, .sentinel, .sentinel, .sentinel, .sentinel, .sentinel, .sentinel, .sentinel, .sentinel, .sentinel, .sentinel, .sentinel, .sentinel, .sentinel, .sentinel, .sentinel, .sentinel, .sentinel], laidTests := true, laidLooks := .later }
def FrameCarriesCardSaid : Prop := Claim7.holds Tryd.pinned (.plain (OpenSpec.ofChange frameCarriesSpec)) frameCarriesCard

/-- THE TIED CARD OF 'ferrylaw14.FrameLinks'. -/
def frameLinksCard : Claim7 := { stood := { row := frameLinksRow, standIns := [], harness := (true, "ca33e1c6bb33e6a70d557683cafb3bbe41795c8919796a19d1c64079adac1563"), looks := true }, kinds := [], alts := [], laidByText := true, laidKinds := [.handle, .sentinel, .sentinel, .sentinel, .sentinel, .sentinel, .sentinel, .sentinel, .sentinel, .sentinel, .sentinel, .sentinel, .sentinel, .sentinel, .sentinel, .sentinel, .sentinel, .sentinel, .sentinel, .sentinel, .sentinel], laidTests := true, laidLooks := .later }
def FrameLinksCardSaid : Prop := Claim7.holds Tryd.pinned (.plain (OpenSpec.ofChange frameLinksSpec)) frameLinksCard

/-- THE TIED CARD OF 'ferrylaw10.PlanGrows'. -/
def planGrowsCard : Claim7 := { stood := { row := planGrowsRow, standIns := [], harness := (true, "ca33e1c6bb33e6a70d557683cafb3bbe41795c8919796a19d1c64079adac1563"), looks := true }, kinds := [], alts := [], laidByText := true, laidKinds := [.handle, .sentinel, .sentinel, .sentinel, .sentinel, .sentinel, .sentinel, .sentinel, .sentinel, .sentinel, .sentinel, .sentinel, .sentinel, .sentinel, .sentinel, .sentinel, .sentinel, .sentinel, .sentinel, .sentinel, .sentinel], laidTests := true, laidLooks := .later }
def PlanGrowsCardSaid : Prop := Claim7.holds Tryd.pinned (.plain (OpenSpec.ofChange planGrowsSpec)) planGrowsCard

/-- THE TIED CARD OF 'ferrylaw14.FrameTicks'. -/
def frameTicksCard : Claim7 := { stood := { row := frameTicksRow, standIns := [], harness := (true, "ca33e1c6bb33e6a70d557683cafb3bbe41795c8919796a19d1c64079adac1563"), looks := true }, kinds := [], alts := [], laidByText := true, laidKinds := [.handle, .sentinel, .sentinel, .sentinel, .sentinel, .sentinel, .sentinel, .sentinel, .sentinel, .sentinel, .sentinel, .sentinel, .sentinel, .sentinel, .sentinel, .sentinel, .sentinel, .sentinel, .sentinel, .sentinel, .sentinel], laidTests := true, laidLooks := .later }
def FrameTicksCardSaid : Prop := Claim7.holds Tryd.pinned (.plain (OpenSpec.ofChange frameTicksSpec)) frameTicksCard

/-- THE TIED CARD OF 'ferrylaw14.FrameChecks'. -/
def frameChecksCard : Claim7 := { stood := { row := frameChecksRow, standIns := [], harness := (true, "ca33e1c6bb33e6a70d557683cafb3bbe41795c8919796a19d1c64079adac1563"), looks := true }, kinds := [], alts := [], laidByText := true, laidKinds := [.handle, .sentinel, .sentinel, .sentinel, .sentinel, .sentinel, .sentinel, .sentinel, .sentinel, .sentinel, .sentinel, .sentinel, .sentinel, .sentinel, .sentinel, .sentinel, .sentinel, .sentinel, .sentinel, .sentinel, .sentinel], laidTests := true, laidLooks := .later }
def FrameChecksCardSaid : Prop := Claim7.holds Tryd.pinned (.plain (OpenSpec.ofChange frameChecksSpec)) frameChecksCard

/-- THE TIED CARD OF 'ferrylaw10.PlanChecks'. -/
def planChecksCard : Claim7 := { stood := { row := planChecksRow, standIns := [], harness := (true, "ca33e1c6bb33e6a70d557683cafb3bbe41795c8919796a19d1c64079adac1563"), looks := true }, kinds := [], alts := [], laidByText := true, laidKinds := [.handle, .sentinel, .sentinel, .sentinel, .sentinel, .sentinel, .sentinel, .sentinel, .sentinel, .sentinel, .sentinel, .sentinel, .sentinel, .sentinel, .sentinel, .sentinel, .sentinel, .sentinel, .sentinel, .sentinel, .sentinel], laidTests := true, laidLooks := .later }
def PlanChecksCardSaid : Prop := Claim7.holds Tryd.pinned (.plain (OpenSpec.ofChange planChecksSpec)) planChecksCard

/-- THE SECOND FORM's CARD OF 'ferrylaw14.FrameCarries'. -/
def frameCarriesUptoCard : Claim7 := { stood := { row := frameCarriesUptoRow, standIns := [], harness := (true, "ca33e1c6bb33e6a70d557683cafb3bbe41795c8919796a19d1c64079adac1563"), looks := true }, kinds := [], alts := [], laidByText := true, laidKinds := [.handle, .sentinel, .sentinel, .sentinel, .sentinel, .sentinel, .sentinel, .sentinel, .sentinel, .sentinel, .sentinel, .sentinel, .sentinel, .sentinel, .sentinel, .sentinel, .sentinel, .sentinel, .sentinel, .sentinel, .sentinel], laidTests := true, laidLooks := .later }
def FrameCarriesUptoCardSaid : Prop := Claim7.holds Tryd.pinned (.plain (OpenSpec.upto frameCarriesSpec)) frameCarriesUptoCard

/-- THE SECOND FORM's CARD OF 'ferrylaw14.FrameLinks'. -/
def frameLinksUptoCard : Claim7 := { stood := { row := frameLinksUptoRow, standIns := [], harness := (true, "ca33e1c6bb33e6a70d557683cafb3bbe41795c8919796a19d1c64079adac1563"), looks := true }, kinds := [], alts := [], laidByText := true, laidKinds := [.handle, .sentinel, .sentinel, .sentinel, .sentinel, .sentinel, .sentinel, .sentinel, .sentinel, .sentinel, .sentinel, .sentinel, .sentinel, .sentinel, .sentinel, .sentinel, .sentinel, .sentinel, .sentinel, .sentinel, .sentinel], laidTests := true, laidLooks := .later }
def FrameLinksUptoCardSaid : Prop := Claim7.holds Tryd.pinned (.plain (OpenSpec.upto frameLinksSpec)) frameLinksUptoCard

/-- THE SECOND FORM's CARD OF 'ferrylaw10.PlanGrows'. -/
def planGrowsUptoCard : Claim7 := { stood := { row := planGrowsUptoRow, standIns := [], harness := (true, "ca33e1c6bb33e6a70d557683cafb3bbe41795c8919796a19d1c64079adac1563"), looks := true }, kinds := [], alts := [], laidByText := true, laidKinds := [.handle, .sentinel, .sentinel, .sentinel, .sentinel, .sentinel, .sentinel, .sentinel, .sentinel, .sentinel, .sentinel, .sentinel, .sentinel, .sentinel, .sentinel, .sentinel, .sentinel, .sentinel, .sentinel, .sentinel, .sentinel], laidTests := true, laidLooks := .later }
def PlanGrowsUptoCardSaid : Prop := Claim7.holds Tryd.pinned (.plain (OpenSpec.upto planGrowsSpec)) planGrowsUptoCard

/-- THE SECOND FORM's CARD OF 'ferrylaw14.FrameTicks'. -/
def frameTicksUptoCard : Claim7 := { stood := { row := frameTicksUptoRow, standIns := [], harness := (true, "ca33e1c6bb33e6a70d557683cafb3bbe41795c8919796a19d1c64079adac1563"), looks := true }, kinds := [], alts := [], laidByText := true, laidKinds := [.handle, .sentinel, .sentinel, .sentinel, .sentinel, .sentinel, .sentinel, .sentinel, .sentinel, .sentinel, .sentinel, .sentinel, .sentinel, .sentinel, .sentinel, .sentinel, .sentinel, .sentinel, .sentinel, .sentinel, .sentinel], laidTests := true, laidLooks := .later }
def FrameTicksUptoCardSaid : Prop := Claim7.holds Tryd.pinned (.plain (OpenSpec.upto frameTicksSpec)) frameTicksUptoCard

/-- THE SECOND FORM's CARD OF 'ferrylaw14.FrameChecks'. -/
def frameChecksUptoCard : Claim7 := { stood := { row := frameChecksUptoRow, standIns := [], harness := (true, "ca33e1c6bb33e6a70d557683cafb3bbe41795c8919796a19d1c64079adac1563"), looks := true }, kinds := [], alts := [], laidByText := true, laidKinds := [.handle, .sentinel, .sentinel, .sentinel, .sentinel, .sentinel, .sentinel, .sentinel, .sentinel, .sentinel, .sentinel, .sentinel, .sentinel, .sentinel, .sentinel, .sentinel, .sentinel, .sentinel, .sentinel, .sentinel, .sentinel], laidTests := true, laidLooks := .later }
def FrameChecksUptoCardSaid : Prop := Claim7.holds Tryd.pinned (.plain (OpenSpec.upto frameChecksSpec)) frameChecksUptoCard

/-- THE SECOND FORM's CARD OF 'ferrylaw10.PlanChecks'. -/
def planChecksUptoCard : Claim7 := { stood := { row := planChecksUptoRow, standIns := [], harness := (true, "ca33e1c6bb33e6a70d557683cafb3bbe41795c8919796a19d1c64079adac1563"), looks := true }, kinds := [], alts := [], laidByText := true, laidKinds := [.handle, .sentinel, .sentinel, .sentinel, .sentinel, .sentinel, .sentinel, .sentinel, .sentinel, .sentinel, .sentinel, .sentinel, .sentinel, .sentinel, .sentinel, .sentinel, .sentinel, .sentinel, .sentinel, .sentinel, .sentinel], laidTests := true, laidLooks := .later }
def PlanChecksUptoCardSaid : Prop := Claim7.holds Tryd.pinned (.plain (OpenSpec.upto planChecksSpec)) planChecksUptoCard
end Rows
end Go.Proofs.YtndoembhbfiokaaDoor
