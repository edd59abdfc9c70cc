/-
  DERIVED. GIVEN WITH THE SEED: THE CARDS: each row of YtdcopkocdmkiiaaDoorRows.lean that lists a variable, with what it lists TIED to the program's text (the seventh form; the later family's looks); each row that meets fmt, with fmt's text TOLD by the authors' own Lean function (tested against real Go, not proved from fmt's source: count such statements apart). THE CARD IS WHAT COUNTS. Prove the row's statement (the work); the ties are given (YtdcopkocdmkiiaaDoorTie.lean); close each card by the builder's one call (the guide's Derived/Test/ToyasCard.lean, 'card_holds'). Laid BY PROGRAM, IN A SANDBOX (cutbox-door.mjs). By AI agents, Wed Nov 11 2026. No macro, syntax, notation, axiom, sorry.
-/
import Derived.Test.YtdcopkocdmkiiaaDoorRows
import GoSem.ClaimSeven
namespace Go.Proofs.YtdcopkocdmkiiaaDoor
namespace Rows

/-- THE TIED CARD OF 'ferrylaw02.WireLists'. -/
def wireListsCard : Claim7 := { stood := { row := wireListsRow, standIns := [], harness := (true, "db58123003edb72cc425c016409b5457ac4656e84799643e4152b417f2f59d6b"), looks := true }, kinds := [], alts := [], laidByText := true, laidKinds := [.handle, .sentinel, .sentinel, .sentinel, .sentinel, .sentinel, .sentinel, .sentinel, .sentinel, .sentinel, .sentinel, .sentinel, .sentinel, .sentinel, .sentinel, .sentinel, .sentinel, .sentinel, .sentinel, .sentinel, .sentinel], laidTests := true, laidLooks := .later }
def WireListsCardSaid : Prop := Claim7.holds Tryd.pinned (.plain (OpenSpec.ofChange wireListsSpec)) wireListsCard

/-- THE TIED CARD OF 'ferrylaw02.WireMemory'. -/
def wireMemoryCard : Claim7 := { stood := { row := wireMemoryRow, standIns := [], harness := (true, "db58123003edb72cc425c016409b5457ac4656e84799643e4152b417f2f59d6b"), looks := true }, kinds := [], alts := [], laidByText := true, laidKinds := [.handle, .sentinel, .sentinel, .sentinel, .sentinel, .sentinel, .sentinel, .sentinel, .sentinel, .sentinel, .sentinel, .sentinel, .sentinel, .sentinel, .sentinel, .sentinel, .sentinel, .sentinel, .sentinel, .sentinel, .sentinel], laidTests := true, laidLooks := .later }
def WireMemoryCardSaid : Prop := Claim7.holds Tryd.pinned (.plain (OpenSpec.ofChange wireMemorySpec)) wireMemoryCard

/-- THE TIED CARD OF 'ferrylaw14.FrameCarries'. -/
def frameCarriesCard : Claim7 := { stood := { row := frameCarriesRow, standIns := [], harness := (true, "db58123003edb72cc425c016409b5457ac4656e84799643e4152b417f2f59d6b"), looks := true }, kinds := [], alts := [], laidByText := true, laidKinds := [.handle, .sentinel, .sentinel, .sentinel, .sentinel, .sentinel, .sentinel, .sentinel, .sentinel, .sentinel, .sentinel, .sentinel, .sentinel, .sentinel, .sentinel, .sentinel, .sentinel, .sentinel, .sentinel, .sentinel, .sentinel], laidTests := true, laidLooks := .later }
def FrameCarriesCardSaid : Prop := Claim7.holds Tryd.pinned (.plain (OpenSpec.ofChange frameCarriesSpec)) frameCarriesCard

/-- THE TIED CARD OF 'ferrylaw14.FrameLinks'. -/
def frameLinksCard : Claim7 := { stood := { row := frameLinksRow, standIns := [], harness := (true, "db58123003edb72cc425c016409b5457ac4656e84799643e4152b417f2f59d6b"), looks := true }, kinds := [], alts := [], laidByText := true, laidKinds := [.handle, .sentinel, .sentinel, .sentinel, .sentinel, .sentinel, .sentinel, .sentinel, .sentinel, .sentinel, .sentinel, .sentinel, .sentinel, .sentinel, .sentinel, .sentinel, .sentinel, .sentinel, .sentinel, .sentinel, .sentinel], laidTests := true, laidLooks := .later }
def FrameLinksCardSaid : Prop := Claim7.holds Tryd.pinned (.plain (OpenSpec.ofChange frameLinksSpec)) frameLinksCard

/-- THE TIED CARD OF 'ferrylaw11.ValidOrder'. -/
def validOrderCard : Claim7 := { stood := { row := validOrderRow, standIns := [], harness := (true, "db58123003edb72cc425c016409b5457ac4656e84799643e4152b417f2f59d6b"), looks := true }, kinds := [], alts := [], laidByText := true, laidKinds := [.handle, .sentinel, .sentinel, .sentinel, .sentinel, .sentinel, .sentinel, .sentinel, .sentinel, .sentinel, .sentinel, .sentinel, .sentinel, .sentinel, .sentinel, .sentinel, .sentinel, .sentinel, .sentinel, .sentinel, .sentinel], laidTests := true, laidLooks := .later }
def ValidOrderCardSaid : Prop := Claim7.holds Tryd.pinned (.plain (OpenSpec.ofChange validOrderSpec)) validOrderCard

/-- THE TIED CARD OF 'ferrytop.FerryRunsSplit'. -/
def ferryRunsSplitCard : Claim7 := { stood := { row := ferryRunsSplitRow, standIns := [], harness := (true, "db58123003edb72cc425c016409b5457ac4656e84799643e4152b417f2f59d6b"), looks := true }, kinds := [], alts := [], laidByText := true, laidKinds := [.sentinel, .sentinel, .sentinel, .sentinel, .sentinel, .sentinel, .listed, .data], laidTests := true, laidLooks := .later }
def FerryRunsSplitCardSaid : Prop := Claim7.holds Tryd.pinned (.plain (OpenSpec.ofChange ferryRunsSplitSpec)) ferryRunsSplitCard

/-- THE TIED CARD OF 'ferrylaw10.PlanGrows'. -/
def planGrowsCard : Claim7 := { stood := { row := planGrowsRow, standIns := [], harness := (true, "db58123003edb72cc425c016409b5457ac4656e84799643e4152b417f2f59d6b"), looks := true }, kinds := [], alts := [], laidByText := true, laidKinds := [.handle, .sentinel, .sentinel, .sentinel, .sentinel, .sentinel, .sentinel, .sentinel, .sentinel, .sentinel, .sentinel, .sentinel, .sentinel, .sentinel, .sentinel, .sentinel, .sentinel, .sentinel, .sentinel, .sentinel, .sentinel], laidTests := true, laidLooks := .later }
def PlanGrowsCardSaid : Prop := Claim7.holds Tryd.pinned (.plain (OpenSpec.ofChange planGrowsSpec)) planGrowsCard

/-- THE TIED CARD OF 'ferrylaw14.FrameTicks'. -/
def frameTicksCard : Claim7 := { stood := { row := frameTicksRow, standIns := [], harness := (true, "db58123003edb72cc425c016409b5457ac4656e84799643e4152b417f2f59d6b"), looks := true }, kinds := [], alts := [], laidByText := true, laidKinds := [.handle, .sentinel, .sentinel, .sentinel, .sentinel, .sentinel, .sentinel, .sentinel, .sentinel, .sentinel, .sentinel, .sentinel, .sentinel, .sentinel, .sentinel, .sentinel, .sentinel, .sentinel, .sentinel, .sentinel, .sentinel], laidTests := true, laidLooks := .later }
def FrameTicksCardSaid : Prop := Claim7.holds Tryd.pinned (.plain (OpenSpec.ofChange frameTicksSpec)) frameTicksCard

/-- THE TIED CARD OF 'ferrylaw14.FrameChecks'. -/
def frameChecksCard : Claim7 := { stood := { row := frameChecksRow, standIns := [], harness := (true, "db58123003edb72cc425c016409b5457ac4656e84799643e4152b417f2f59d6b"), looks := true }, kinds := [], alts := [], laidByText := true, laidKinds := [.handle, .sentinel, .sentinel, .sentinel, .sentinel, .sentinel, .sentinel, .sentinel, .sentinel, .sentinel, .sentinel, .sentinel, .sentinel, .sentinel, .sentinel, .sentinel, .sentinel, .sentinel, .sentinel, .sentinel, .sentinel], laidTests := true, laidLooks := .later }
def FrameChecksCardSaid : Prop := Claim7.holds Tryd.pinned (.plain (OpenSpec.ofChange frameChecksSpec)) frameChecksCard

/-- THE TIED CARD OF 'ferrylaw10.PlanChecks'. -/
def planChecksCard : Claim7 := { stood := { row := planChecksRow, standIns := [], harness := (true, "db58123003edb72cc425c016409b5457ac4656e84799643e4152b417f2f59d6b"), looks := true }, kinds := [], alts := [], laidByText := true, laidKinds := [.handle, .sentinel, .sentinel, .sentinel, .sentinel, .sentinel, .sentinel, .sentinel, .sentinel, .sentinel, .sentinel, .sentinel, .sentinel, .sentinel, .sentinel, .sentinel, .sentinel, .sentinel, .sentinel, .sentinel, .sentinel], laidTests := true, laidLooks := .later }
def PlanChecksCardSaid : Prop := Claim7.holds Tryd.pinned (.plain (OpenSpec.ofChange planChecksSpec)) planChecksCard

/-- THE SECOND FORM's CARD OF 'ferrylaw02.WireLists'. -/
def wireListsUptoCard : Claim7 := { stood := { row := wireListsUptoRow, standIns := [], harness := (true, "db58123003edb72cc425c016409b5457ac4656e84799643e4152b417f2f59d6b"), looks := true }, kinds := [], alts := [], laidByText := true, laidKinds := [.handle, .sentinel, .sentinel, .sentinel, .sentinel, .sentinel, .sentinel, .sentinel, .sentinel, .sentinel, .sentinel, .sentinel, .sentinel, .sentinel, .sentinel, .sentinel, .sentinel, .sentinel, .sentinel, .sentinel, .sentinel], laidTests := true, laidLooks := .later }
def WireListsUptoCardSaid : Prop := Claim7.holds Tryd.pinned (.plain (OpenSpec.upto wireListsSpec)) wireListsUptoCard

/-- THE SECOND FORM's CARD OF 'ferrylaw02.WireMemory'. -/
def wireMemoryUptoCard : Claim7 := { stood := { row := wireMemoryUptoRow, standIns := [], harness := (true, "db58123003edb72cc425c016409b5457ac4656e84799643e4152b417f2f59d6b"), looks := true }, kinds := [], alts := [], laidByText := true, laidKinds := [.handle, .sentinel, .sentinel, .sentinel, .sentinel, .sentinel, .sentinel, .sentinel, .sentinel, .sentinel, .sentinel, .sentinel, .sentinel, .sentinel, .sentinel, .sentinel, .sentinel, .sentinel, .sentinel, .sentinel, .sentinel], laidTests := true, laidLooks := .later }
def WireMemoryUptoCardSaid : Prop := Claim7.holds Tryd.pinned (.plain (OpenSpec.upto wireMemorySpec)) wireMemoryUptoCard

/-- THE SECOND FORM's CARD OF 'ferrylaw14.FrameCarries'. -/
def frameCarriesUptoCard : Claim7 := { stood := { row := frameCarriesUptoRow, standIns := [], harness := (true, "db58123003edb72cc425c016409b5457ac4656e84799643e4152b417f2f59d6b"), looks := true }, kinds := [], alts := [], laidByText := true, laidKinds := [.handle, .sentinel, .sentinel, .sentinel, .sentinel, .sentinel, .sentinel, .sentinel, .sentinel, .sentinel, .sentinel, .sentinel, .sentinel, .sentinel, .sentinel, .sentinel, .sentinel, .sentinel, .sentinel, .sentinel, .sentinel], laidTests := true, laidLooks := .later }
def FrameCarriesUptoCardSaid : Prop := Claim7.holds Tryd.pinned (.plain (OpenSpec.upto frameCarriesSpec)) frameCarriesUptoCard

/-- THE SECOND FORM's CARD OF 'ferrylaw14.FrameLinks'. -/
def frameLinksUptoCard : Claim7 := { stood := { row := frameLinksUptoRow, standIns := [], harness := (true, "db58123003edb72cc425c016409b5457ac4656e84799643e4152b417f2f59d6b"), looks := true }, kinds := [], alts := [], laidByText := true, laidKinds := [.handle, .sentinel, .sentinel, .sentinel, .sentinel, .sentinel, .sentinel, .sentinel, .sentinel, .sentinel, .sentinel, .sentinel, .sentinel, .sentinel, .sentinel, .sentinel, .sentinel, .sentinel, .sentinel, .sentinel, .sentinel], laidTests := true, laidLooks := .later }
def FrameLinksUptoCardSaid : Prop := Claim7.holds Tryd.pinned (.plain (OpenSpec.upto frameLinksSpec)) frameLinksUptoCard

/-- THE SECOND FORM's CARD OF 'ferrylaw11.ValidOrder'. -/
def validOrderUptoCard : Claim7 := { stood := { row := validOrderUptoRow, standIns := [], harness := (true, "db58123003edb72cc425c016409b5457ac4656e84799643e4152b417f2f59d6b"), looks := true }, kinds := [], alts := [], laidByText := true, laidKinds := [.handle, .sentinel, .sentinel, .sentinel, .sentinel, .sentinel, .sentinel, .sentinel, .sentinel, .sentinel, .sentinel, .sentinel, .sentinel, .sentinel, .sentinel, .sentinel, .sentinel, .sentinel, .sentinel, .sentinel, .sentinel], laidTests := true, laidLooks := .later }
def ValidOrderUptoCardSaid : Prop := Claim7.holds Tryd.pinned (.plain (OpenSpec.upto validOrderSpec)) validOrderUptoCard

/-- THE SECOND FORM's CARD OF 'ferrytop.FerryRunsSplit'. -/
def ferryRunsSplitUptoCard : Claim7 := { stood := { row := ferryRunsSplitUptoRow, standIns := [], harness := (true, "db58123003edb72cc425c016409b5457ac4656e84799643e4152b417f2f59d6b"), looks := true }, kinds := [], alts := [], laidByText := true, laidKinds := [.sentinel, .sentinel, .sentinel, .sentinel, .sentinel, .sentinel, .listed, .data], laidTests := true, laidLooks := .later }
def FerryRunsSplitUptoCardSaid : Prop := Claim7.holds Tryd.pinned (.plain (OpenSpec.upto ferryRunsSplitSpec)) ferryRunsSplitUptoCard

/-- THE SECOND FORM's CARD OF 'ferrylaw10.PlanGrows'. -/
def planGrowsUptoCard : Claim7 := { stood := { row := planGrowsUptoRow, standIns := [], harness := (true, "db58123003edb72cc425c016409b5457ac4656e84799643e4152b417f2f59d6b"), looks := true }, kinds := [], alts := [], laidByText := true, laidKinds := [.handle, .sentinel, .sentinel, .sentinel, .sentinel, .sentinel, .sentinel, .sentinel, .sentinel, .sentinel, .sentinel, .sentinel, .sentinel, .sentinel, .sentinel, .sentinel, .sentinel, .sentinel, .sentinel, .sentinel, .sentinel], laidTests := true, laidLooks := .later }
def PlanGrowsUptoCardSaid : Prop := Claim7.holds Tryd.pinned (.plain (OpenSpec.upto planGrowsSpec)) planGrowsUptoCard

/-- THE SECOND FORM's CARD OF 'ferrylaw14.FrameTicks'. -/
def frameTicksUptoCard : Claim7 := { stood := { row := frameTicksUptoRow, standIns := [], harness := (true, "db58123003edb72cc425c016409b5457ac4656e84799643e4152b417f2f59d6b"), looks := true }, kinds := [], alts := [], laidByText := true, laidKinds := [.handle, .sentinel, .sentinel, .sentinel, .sentinel, .sentinel, .sentinel, .sentinel, .sentinel, .sentinel, .sentinel, .sentinel, .sentinel, .sentinel, .sentinel, .sentinel, .sentinel, .sentinel, .sentinel, .sentinel, .sentinel], laidTests := true, laidLooks := .later }
def FrameTicksUptoCardSaid : Prop := Claim7.holds Tryd.pinned (.plain (OpenSpec.upto frameTicksSpec)) frameTicksUptoCard

/-- THE SECOND FORM's CARD OF 'ferrylaw14.FrameChecks'. -/
def frameChecksUptoCard : Claim7 := { stood := { row := frameChecksUptoRow, standIns := [], harness := (true, "db58123003edb72cc425c016409b5457ac4656e84799643e4152b417f2f59d6b"), looks := true }, kinds := [], alts := [], laidByText := true, laidKinds := [.handle, .sentinel, .sentinel, .sentinel, .sentinel, .sentinel, .sentinel, .sentinel, .sentinel, .sentinel, .sentinel, .sentinel, .sentinel, .sentinel, .sentinel, .sentinel, .sentinel, .sentinel, .sentinel, .sentinel, .sentinel], laidTests := true, laidLooks := .later }
def FrameChecksUptoCardSaid : Prop := Claim7.holds Tryd.pinned (.plain (OpenSpec.upto frameChecksSpec)) frameChecksUptoCard

/-- THE SECOND FORM's CARD OF 'ferrylaw10.PlanChecks'. -/
def planChecksUptoCard : Claim7 := { stood := { row := planChecksUptoRow, standIns := [], harness := (true, "db58123003edb72cc425c016409b5457ac4656e84799643e4152b417f2f59d6b"), looks := true }, kinds := [], alts := [], laidByText := true, laidKinds := [.handle, .sentinel, .sentinel, .sentinel, .sentinel, .sentinel, .sentinel, .sentinel, .sentinel, .sentinel, .sentinel, .sentinel, .sentinel, .sentinel, .sentinel, .sentinel, .sentinel, .sentinel, .sentinel, .sentinel, .sentinel], laidTests := true, laidLooks := .later }
def PlanChecksUptoCardSaid : Prop := Claim7.holds Tryd.pinned (.plain (OpenSpec.upto planChecksSpec)) planChecksUptoCard
end Rows
end Go.Proofs.YtdcopkocdmkiiaaDoor
