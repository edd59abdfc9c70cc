/- A part of one law's card. -/
import Derived.Test.YtndoembhbfiokaaDoorAat
import Derived.Test.YtndoembhbfiokaaDoorBaj
set_option linter.unusedVariables false
set_option linter.unusedSimpArgs false
namespace Go.Proofs.YtndoembhbfiokaaDoor.frameTicks
open Go Go.Proofs.YtndoembhbfiokaaDoor.Am Go.RowKit Go.ChangeShapes Go.WideShapes Go.ChangeAt

theorem named : Tryd.pinned.checked.prog.funcNamed Rows.frameTicksUptoRow.func = some 6 := by kernel_rfl
theorem closed : joinedFacts Tryd.pinned.checked.prog 6 Tryd.f6 (Rows.OpenSpec.upto Rows.frameTicksSpec).bare Rows.frameTicksUptoRow = true := by kernel_rfl
theorem inst : Tryd.f6.isInstance Tryd.pinned.checked.prog Rows.frameTicksUptoRow.origin Rows.frameTicksUptoRow.targs := of_decide_eq_true (by kernel_rfl)
theorem wrap : Tryd.f6.isWrapper Tryd.pinned.checked.prog Rows.frameTicksUptoRow.wrapper Rows.frameTicksUptoRow.mainSum := by
  unfold Func.isWrapper; first | (rw [if_pos (by decide +kernel)]; kernel_rfl) | (rw [if_neg (by decide +kernel)]; exact ⟨rfl, rfl⟩)

end Go.Proofs.YtndoembhbfiokaaDoor.frameTicks
