/- A part of one law's card. -/
import Derived.Test.YtndoembhbfiokaaGreatDoorAav
import Derived.Test.YtndoembhbfiokaaGreatDoorBaf
set_option linter.unusedVariables false
set_option linter.unusedSimpArgs false
namespace Go.Proofs.YtndoembhbfiokaaGreatDoor.planBoots
open Go Go.Proofs.YtndoembhbfiokaaGreatDoor.Am Go.RowKit Go.ChangeShapes Go.WideShapes Go.ChangeAt

theorem named : Tryz.pinned.checked.prog.funcNamed Rows.planBootsUptoRow.func = some 3 := by kernel_rfl
theorem closed : joinedFacts Tryz.pinned.checked.prog 3 Tryz.f3 (Rows.OpenSpec.upto Rows.planBootsSpec).bare Rows.planBootsUptoRow = true := by kernel_rfl
theorem inst : Tryz.f3.isInstance Tryz.pinned.checked.prog Rows.planBootsUptoRow.origin Rows.planBootsUptoRow.targs := of_decide_eq_true (by kernel_rfl)
theorem wrap : Tryz.f3.isWrapper Tryz.pinned.checked.prog Rows.planBootsUptoRow.wrapper Rows.planBootsUptoRow.mainSum := by
  unfold Func.isWrapper; first | (rw [if_pos (by decide +kernel)]; kernel_rfl) | (rw [if_neg (by decide +kernel)]; exact ⟨rfl, rfl⟩)

end Go.Proofs.YtndoembhbfiokaaGreatDoor.planBoots
