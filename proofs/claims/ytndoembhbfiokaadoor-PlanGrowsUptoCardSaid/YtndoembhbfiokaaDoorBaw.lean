/- A part of one law's card. -/
import Derived.Test.YtndoembhbfiokaaDoorAax
import Derived.Test.YtndoembhbfiokaaDoorBav
set_option linter.unusedVariables false
set_option linter.unusedSimpArgs false
namespace Go.Proofs.YtndoembhbfiokaaDoor.planGrows
open Go Go.Proofs.YtndoembhbfiokaaDoor.Am Go.RowKit Go.ChangeShapes Go.WideShapes Go.ChangeAt

theorem named : Tryd.pinned.checked.prog.funcNamed Rows.planGrowsUptoRow.func = some 5 := by kernel_rfl
theorem closed : joinedFacts Tryd.pinned.checked.prog 5 Tryd.f5 (Rows.OpenSpec.upto Rows.planGrowsSpec).bare Rows.planGrowsUptoRow = true := by kernel_rfl
theorem inst : Tryd.f5.isInstance Tryd.pinned.checked.prog Rows.planGrowsUptoRow.origin Rows.planGrowsUptoRow.targs := of_decide_eq_true (by kernel_rfl)
theorem wrap : Tryd.f5.isWrapper Tryd.pinned.checked.prog Rows.planGrowsUptoRow.wrapper Rows.planGrowsUptoRow.mainSum := by
  unfold Func.isWrapper; first | (rw [if_pos (by decide +kernel)]; kernel_rfl) | (rw [if_neg (by decide +kernel)]; exact ⟨rfl, rfl⟩)

end Go.Proofs.YtndoembhbfiokaaDoor.planGrows
