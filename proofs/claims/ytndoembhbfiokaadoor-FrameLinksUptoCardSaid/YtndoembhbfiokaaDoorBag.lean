/- A part of one law's card. -/
import Derived.Test.YtndoembhbfiokaaDoorAas
import Derived.Test.YtndoembhbfiokaaDoorBaf
set_option linter.unusedVariables false
set_option linter.unusedSimpArgs false
namespace Go.Proofs.YtndoembhbfiokaaDoor.frameLinks
open Go Go.Proofs.YtndoembhbfiokaaDoor.Am Go.RowKit Go.ChangeShapes Go.WideShapes Go.ChangeAt

theorem named : Tryd.pinned.checked.prog.funcNamed Rows.frameLinksUptoRow.func = some 4 := by kernel_rfl
theorem closed : joinedFacts Tryd.pinned.checked.prog 4 Tryd.f4 (Rows.OpenSpec.upto Rows.frameLinksSpec).bare Rows.frameLinksUptoRow = true := by kernel_rfl
theorem inst : Tryd.f4.isInstance Tryd.pinned.checked.prog Rows.frameLinksUptoRow.origin Rows.frameLinksUptoRow.targs := of_decide_eq_true (by kernel_rfl)
theorem wrap : Tryd.f4.isWrapper Tryd.pinned.checked.prog Rows.frameLinksUptoRow.wrapper Rows.frameLinksUptoRow.mainSum := by
  unfold Func.isWrapper; first | (rw [if_pos (by decide +kernel)]; kernel_rfl) | (rw [if_neg (by decide +kernel)]; exact ⟨rfl, rfl⟩)

end Go.Proofs.YtndoembhbfiokaaDoor.frameLinks
