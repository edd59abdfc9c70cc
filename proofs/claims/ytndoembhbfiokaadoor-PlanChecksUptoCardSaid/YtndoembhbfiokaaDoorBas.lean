/- A part of one law's card. -/
import Derived.Test.YtndoembhbfiokaaDoorAaw
import Derived.Test.YtndoembhbfiokaaDoorBar
set_option linter.unusedVariables false
set_option linter.unusedSimpArgs false
namespace Go.Proofs.YtndoembhbfiokaaDoor.planChecks
open Go Go.Proofs.YtndoembhbfiokaaDoor.Am Go.RowKit Go.ChangeShapes Go.WideShapes Go.ChangeAt

theorem named : Tryd.pinned.checked.prog.funcNamed Rows.planChecksUptoRow.func = some 8 := by kernel_rfl
theorem closed : joinedFacts Tryd.pinned.checked.prog 8 Tryd.f8 (Rows.OpenSpec.upto Rows.planChecksSpec).bare Rows.planChecksUptoRow = true := by kernel_rfl
theorem inst : Tryd.f8.isInstance Tryd.pinned.checked.prog Rows.planChecksUptoRow.origin Rows.planChecksUptoRow.targs := of_decide_eq_true (by kernel_rfl)
theorem wrap : Tryd.f8.isWrapper Tryd.pinned.checked.prog Rows.planChecksUptoRow.wrapper Rows.planChecksUptoRow.mainSum := by
  unfold Func.isWrapper; first | (rw [if_pos (by decide +kernel)]; kernel_rfl) | (rw [if_neg (by decide +kernel)]; exact ⟨rfl, rfl⟩)

end Go.Proofs.YtndoembhbfiokaaDoor.planChecks
