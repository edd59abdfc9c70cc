/-
  DERIVED. GIVEN WITH THE SEED: THE CARDS: each row of YtndoembhbfiokaaGreatDoorRows.lean that lists a variable, with what it lists TIED to the program's text (the seventh form; the later family's looks); each row that meets fmt, with fmt's text TOLD by the authors' own Lean function (tested against real Go, not proved from fmt's source: count such statements apart). THE CARD IS WHAT COUNTS. Prove the row's statement (the work); the ties are given (YtndoembhbfiokaaGreatDoorTie.lean); close each card by the builder's one call (the guide's Derived/Test/ToyasCard.lean, 'card_holds'). Laid BY PROGRAM, IN A SANDBOX (cutbox-door.mjs). By AI agents, Wed Nov 11 2026. No macro, syntax, notation, axiom, sorry.
-/
import Derived.Test.YtndoembhbfiokaaGreatDoorRows
import GoSem.ClaimSeven
namespace Go.Proofs.YtndoembhbfiokaaGreatDoor
namespace Rows

/-- THE TIED CARD OF 'ferrylaw10.PlanBoots'. -/
def planBootsCard : Claim7 := { stood := { row := planBootsRow, standIns := [], harness := (true, "66447741b656a64e9f583d43e65c06c5816bdb29207ce6d7b5ea0c04b5e76e65"), looks := true }, kinds := [], alts := [], laidByText := true, laidKinds := [.handle, .sentinel, .sentinel, .sentinel, .sentinel, .sentinel, .sentinel, .sentinel, .sentinel, .sentinel, .sentinel, .sentinel, .sentinel, .sentinel, .sentinel, .sentinel, .sentinel, .sentinel, .sentinel, .sentinel, .sentinel], laidTests := true, laidLooks := .later }
def PlanBootsCardSaid : Prop := Claim7.holds Tryz.pinned (.plain (OpenSpec.ofChange planBootsSpec)) planBootsCard

/-- THE TIED CARD OF 'ferrylaw14.FrameAsks'. -/
def frameAsksCard : Claim7 := { stood := { row := frameAsksRow, standIns := [], harness := (true, "66447741b656a64e9f583d43e65c06c5816bdb29207ce6d7b5ea0c04b5e76e65"), looks := true }, kinds := [], alts := [], laidByText := true, laidKinds := [.handle, .sentinel, .sentinel, .sentinel, .sentinel, .sentinel, .sentinel, .sentinel, .sentinel, .sentinel, .sentinel, .sentinel, .sentinel, .sentinel, .sentinel, .sentinel, .sentinel, .sentinel, .sentinel, .sentinel, .sentinel], laidTests := true, laidLooks := .later }
def FrameAsksCardSaid : Prop := Claim7.holds Tryz.pinned (.plain (OpenSpec.ofChange frameAsksSpec)) frameAsksCard

/-- THE SECOND FORM's CARD OF 'ferrylaw10.PlanBoots'. -/
def planBootsUptoCard : Claim7 := { stood := { row := planBootsUptoRow, standIns := [], harness := (true, "66447741b656a64e9f583d43e65c06c5816bdb29207ce6d7b5ea0c04b5e76e65"), looks := true }, kinds := [], alts := [], laidByText := true, laidKinds := [.handle, .sentinel, .sentinel, .sentinel, .sentinel, .sentinel, .sentinel, .sentinel, .sentinel, .sentinel, .sentinel, .sentinel, .sentinel, .sentinel, .sentinel, .sentinel, .sentinel, .sentinel, .sentinel, .sentinel, .sentinel], laidTests := true, laidLooks := .later }
def PlanBootsUptoCardSaid : Prop := Claim7.holds Tryz.pinned (.plain (OpenSpec.upto planBootsSpec)) planBootsUptoCard

/-- THE SECOND FORM's CARD OF 'ferrylaw14.FrameAsks'. -/
def frameAsksUptoCard : Claim7 := { stood := { row := frameAsksUptoRow, standIns := [], harness := (true, "66447741b656a64e9f583d43e65c06c5816bdb29207ce6d7b5ea0c04b5e76e65"), looks := true }, kinds := [], alts := [], laidByText := true, laidKinds := [.handle, .sentinel, .sentinel, .sentinel, .sentinel, .sentinel, .sentinel, .sentinel, .sentinel, .sentinel, .sentinel, .sentinel, .sentinel, .sentinel, .sentinel, .sentinel, .sentinel, .sentinel, .sentinel, .sentinel, .sentinel], laidTests := true, laidLooks := .later }
def FrameAsksUptoCardSaid : Prop := Claim7.holds Tryz.pinned (.plain (OpenSpec.upto frameAsksSpec)) frameAsksUptoCard
end Rows
end Go.Proofs.YtndoembhbfiokaaGreatDoor
