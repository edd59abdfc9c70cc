/-
  PROVED: the card of the law ferrylaw10.PlanChecks, second form: it answers true, and its arguments read as before. CONDITIONS: what is handed in is of bulk at most 1048576; the package variables hold the errors that their initialisers lay.
-/
import Derived.Test.YtndoembhbfiokaaDoorAaw
import Derived.Test.YtndoembhbfiokaaDoorBas
set_option linter.unusedVariables false
set_option linter.unusedSimpArgs false
namespace Go.Proofs.YtndoembhbfiokaaDoor.planChecks
open Go Go.Proofs.YtndoembhbfiokaaDoor.Am Go.RowKit Go.ChangeShapes Go.WideShapes Go.ChangeAt

theorem saidUpto : Rows.PlanChecksUptoSaid :=
  OpenClaim.holds_of_cond 8 Tryd.f8 rfl rfl rfl rfl rfl rfl rfl ⟨rfl, rfl, rfl, rfl, rfl⟩ rfl rfl rfl rfl rfl named Tryd.func8 closed inst wrap
    (fun os started H enc _ F => by rw [OpenClaim.pre_eq_preRow]; exact lifted os started H enc F)

theorem plain0 : Tryd.prog.wantsStandIn 60 = false := by kernel_rfl
theorem plain (f : FuncId) (fn : Func) (hf : Tryd.pinned.checked.prog.funcNamed "ferry/ferrylaw10.PlanChecks" = some f) (hfn : Tryd.pinned.checked.prog.funcs[f]? = some fn) :
    true = Tryd.pinned.checked.prog.looks [] ∧ ∀ (j : Nat) t, fn.params[j]? = some t → Tryd.pinned.checked.prog.wantsStandIn t = false := by
  obtain rfl : f = 8 := Option.some.inj ((show Tryd.prog.funcNamed "ferry/ferrylaw10.PlanChecks" = some 8 by kernel_rfl).symm.trans hf) |>.symm
  obtain rfl : fn = Tryd.f8 := (Option.some.inj (Tryd.func8.symm.trans hfn)).symm
  refine ⟨by kernel_rfl, fun j t ht => ?_⟩
  rw [Tryd.params8] at ht
  obtain rfl : t = 60 := by simpa using Array.mem_of_getElem? ht
  exact plain0

/-- The second form's card. -/
theorem cardUpto : Rows.PlanChecksUptoCardSaid :=
  Claim7.holds_tied_plain_at .later [] _ _ _ _ saidUpto (fun _ h => by cases h) (by kernel_rfl) (fun _ h => by cases h) planChecksUpto_row_tie rfl ⟨rfl, rfl⟩ (by kernel_rfl) rfl plain (by kernel_rfl)
end Go.Proofs.YtndoembhbfiokaaDoor.planChecks
