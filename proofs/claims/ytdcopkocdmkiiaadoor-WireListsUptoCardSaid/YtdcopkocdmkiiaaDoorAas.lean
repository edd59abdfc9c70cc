/- The logic and the contracts that the law stands on, part 19 of 20. -/
import Derived.Test.YtdcopkocdmkiiaaDoorAar
set_option linter.unusedVariables false
set_option linter.unusedSimpArgs false
namespace Go.Proofs.YtdcopkocdmkiiaaDoor.wireLists
open Go Go.Proofs.YtdcopkocdmkiiaaDoor.Am Go.RowKit Go.ChangeShapes Go.WideShapes Go.ChangeAt

theorem named : Tryd.pinned.checked.prog.funcNamed Rows.wireListsUptoRow.func = some 3 := by kernel_rfl
theorem closed : joinedFacts Tryd.pinned.checked.prog 3 Tryd.f3 (Rows.OpenSpec.upto Rows.wireListsSpec).bare Rows.wireListsUptoRow = true := by kernel_rfl
theorem inst : Tryd.f3.isInstance Tryd.pinned.checked.prog Rows.wireListsUptoRow.origin Rows.wireListsUptoRow.targs := of_decide_eq_true (by kernel_rfl)
theorem wrap : Tryd.f3.isWrapper Tryd.pinned.checked.prog Rows.wireListsUptoRow.wrapper Rows.wireListsUptoRow.mainSum := by
  unfold Func.isWrapper; first | (rw [if_pos (by decide +kernel)]; kernel_rfl) | (rw [if_neg (by decide +kernel)]; exact ⟨rfl, rfl⟩)
end Go.Proofs.YtdcopkocdmkiiaaDoor.wireLists
