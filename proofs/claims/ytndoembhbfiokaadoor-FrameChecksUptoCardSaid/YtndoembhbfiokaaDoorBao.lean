/- A part of one law's card. -/
import Derived.Test.YtndoembhbfiokaaDoorAau
import Derived.Test.YtndoembhbfiokaaDoorBan
set_option linter.unusedVariables false
set_option linter.unusedSimpArgs false
namespace Go.Proofs.YtndoembhbfiokaaDoor.frameChecks
open Go Go.Proofs.YtndoembhbfiokaaDoor.Am Go.RowKit Go.ChangeShapes Go.WideShapes Go.ChangeAt

theorem named : Tryd.pinned.checked.prog.funcNamed Rows.frameChecksUptoRow.func = some 7 := by kernel_rfl
theorem closed : joinedFacts Tryd.pinned.checked.prog 7 Tryd.f7 (Rows.OpenSpec.upto Rows.frameChecksSpec).bare Rows.frameChecksUptoRow = true := by kernel_rfl
theorem inst : Tryd.f7.isInstance Tryd.pinned.checked.prog Rows.frameChecksUptoRow.origin Rows.frameChecksUptoRow.targs := of_decide_eq_true (by kernel_rfl)
theorem wrap : Tryd.f7.isWrapper Tryd.pinned.checked.prog Rows.frameChecksUptoRow.wrapper Rows.frameChecksUptoRow.mainSum := by
  unfold Func.isWrapper; first | (rw [if_pos (by decide +kernel)]; kernel_rfl) | (rw [if_neg (by decide +kernel)]; exact ⟨rfl, rfl⟩)

end Go.Proofs.YtndoembhbfiokaaDoor.frameChecks
