/- A part of one law's card. -/
import Derived.Test.YtndoembhbfiokaaGreatDoorAas
import Derived.Test.YtndoembhbfiokaaGreatDoorBab
set_option linter.unusedVariables false
set_option linter.unusedSimpArgs false
namespace Go.Proofs.YtndoembhbfiokaaGreatDoor.frameAsks
open Go Go.Proofs.YtndoembhbfiokaaGreatDoor.Am Go.RowKit Go.ChangeShapes Go.WideShapes Go.ChangeAt

theorem named : Tryz.pinned.checked.prog.funcNamed Rows.frameAsksUptoRow.func = some 4 := by kernel_rfl
theorem closed : joinedFacts Tryz.pinned.checked.prog 4 Tryz.f4 (Rows.OpenSpec.upto Rows.frameAsksSpec).bare Rows.frameAsksUptoRow = true := by kernel_rfl
theorem inst : Tryz.f4.isInstance Tryz.pinned.checked.prog Rows.frameAsksUptoRow.origin Rows.frameAsksUptoRow.targs := of_decide_eq_true (by kernel_rfl)
theorem wrap : Tryz.f4.isWrapper Tryz.pinned.checked.prog Rows.frameAsksUptoRow.wrapper Rows.frameAsksUptoRow.mainSum := by
  unfold Func.isWrapper; first | (rw [if_pos (by decide +kernel)]; kernel_rfl) | (rw [if_neg (by decide +kernel)]; exact ⟨rfl, rfl⟩)

end Go.Proofs.YtndoembhbfiokaaGreatDoor.frameAsks
