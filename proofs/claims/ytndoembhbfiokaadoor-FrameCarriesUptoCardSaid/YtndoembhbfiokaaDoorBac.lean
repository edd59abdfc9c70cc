/- A part of one law's card. -/
import Derived.Test.YtndoembhbfiokaaDoorAar
import Derived.Test.YtndoembhbfiokaaDoorBab
set_option linter.unusedVariables false
set_option linter.unusedSimpArgs false
namespace Go.Proofs.YtndoembhbfiokaaDoor.frameCarries
open Go Go.Proofs.YtndoembhbfiokaaDoor.Am Go.RowKit Go.ChangeShapes Go.WideShapes Go.ChangeAt

theorem named : Tryd.pinned.checked.prog.funcNamed Rows.frameCarriesUptoRow.func = some 3 := by kernel_rfl
theorem closed : joinedFacts Tryd.pinned.checked.prog 3 Tryd.f3 (Rows.OpenSpec.upto Rows.frameCarriesSpec).bare Rows.frameCarriesUptoRow = true := by kernel_rfl
theorem inst : Tryd.f3.isInstance Tryd.pinned.checked.prog Rows.frameCarriesUptoRow.origin Rows.frameCarriesUptoRow.targs := of_decide_eq_true (by kernel_rfl)
theorem wrap : Tryd.f3.isWrapper Tryd.pinned.checked.prog Rows.frameCarriesUptoRow.wrapper Rows.frameCarriesUptoRow.mainSum := by
  unfold Func.isWrapper; first | (rw [if_pos (by decide +kernel)]; kernel_rfl) | (rw [if_neg (by decide +kernel)]; exact ⟨rfl, rfl⟩)

end Go.Proofs.YtndoembhbfiokaaDoor.frameCarries
