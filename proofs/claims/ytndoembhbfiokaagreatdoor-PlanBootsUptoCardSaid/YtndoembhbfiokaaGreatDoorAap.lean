/- The logic and the contracts that the laws stand on, part 16. -/
import Derived.Test.YtndoembhbfiokaaGreatDoorAao
import Derived.Test.YtndoembhbfiokaaGreatDoorTie
import Derived.Test.YtndoembhbfiokaaGreatDoorCards
import Derived.ProofKit
import Derived.LaidHandle
import Derived.Lib.LaidTab
/- A world for the witness: the settled one, the package variables holding what their initialisers lay. -/
set_option linter.unusedVariables false
namespace Go.Proofs.YtndoembhbfiokaaGreatDoor.Am
open Go Go.RowKit Go.Proofs Go.Proofs.YtndoembhbfiokaaGreatDoor Go.ChangeShapes Go.WideShapes Go.ChangeAt

noncomputable def low : Nat := (World.holding Tryz.prog default ⟨#[], #[], []⟩).heap.size
def errCells : Array Obj := (texts.map fun x => Obj.cells #[.string ⟨x.2.toArray⟩] 243).toArray
noncomputable def laidWorld (os : Os) : World :=
  let w0 := World.holding Tryz.prog os ⟨errCells, #[], []⟩
  { w0 with heap := sents.foldl (fun h y => h.modify y.1 fun
      | .cells _ t frozen => .cells #[.iface 222 (.pointer (some ⟨low + (y.2 - 1), 0, none⟩))] t frozen
      | o => o) (w0.heap.modify 20 fun
      | .cells _ t frozen => .cells #[.iface 193 (.agg #[.pointer (some ⟨21, 41, none⟩)])] t frozen
      | o => o) }
theorem laid_metD (os : Os) (args : Array Value) : laidMet Tryz.prog (laidL.filter fun x => x.2.handleName?.isNone) ((laidWorld os).forCall (fun _ _ => 0) ⟨#[], args, []⟩).memory :=
  laidMet_of_run' 8 (by kernel_rfl) (by kernel_rfl)
theorem laid_metH (os : Os) (args : Array Value) : laidMetH Tryz.prog laidL ((laidWorld os).forCall (fun _ _ => 0) ⟨#[], args, []⟩).memory :=
  laidMetH_of_parts (laid_metD os args) (by kernel_rfl)
end Go.Proofs.YtndoembhbfiokaaGreatDoor.Am
