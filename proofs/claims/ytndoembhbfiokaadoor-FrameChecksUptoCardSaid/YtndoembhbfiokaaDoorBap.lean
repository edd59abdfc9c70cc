/-
  PROVED: the card of the law ferrylaw14.FrameChecks, second form: it answers true, and its arguments read as before. CONDITIONS: what is handed in is of bulk at most 1048576; the package variables hold the errors that their initialisers lay.
-/
import Derived.Test.YtndoembhbfiokaaDoorAau
import Derived.Test.YtndoembhbfiokaaDoorBao
set_option linter.unusedVariables false
set_option linter.unusedSimpArgs false
namespace Go.Proofs.YtndoembhbfiokaaDoor.frameChecks
open Go Go.Proofs.YtndoembhbfiokaaDoor.Am Go.RowKit Go.ChangeShapes Go.WideShapes Go.ChangeAt

theorem saidUpto : Rows.FrameChecksUptoSaid :=
  OpenClaim.holds_of_cond 7 Tryd.f7 rfl rfl rfl rfl rfl rfl rfl ⟨rfl, rfl, rfl, rfl, rfl⟩ rfl rfl rfl rfl rfl named Tryd.func7 closed inst wrap
    (fun os started H enc _ F => by rw [OpenClaim.pre_eq_preRow]; exact lifted os started H enc F)

theorem plain0 : Tryd.prog.wantsStandIn 31 = false := by kernel_rfl
theorem plain (f : FuncId) (fn : Func) (hf : Tryd.pinned.checked.prog.funcNamed "ferry/ferrylaw14.FrameChecks" = some f) (hfn : Tryd.pinned.checked.prog.funcs[f]? = some fn) :
    true = Tryd.pinned.checked.prog.looks [] ∧ ∀ (j : Nat) t, fn.params[j]? = some t → Tryd.pinned.checked.prog.wantsStandIn t = false := by
  obtain rfl : f = 7 := Option.some.inj ((show Tryd.prog.funcNamed "ferry/ferrylaw14.FrameChecks" = some 7 by kernel_rfl).symm.trans hf) |>.symm
  obtain rfl : fn = Tryd.f7 := (Option.some.inj (Tryd.func7.symm.trans hfn)).symm
  refine ⟨by kernel_rfl, fun j t ht => ?_⟩
  rw [Tryd.params7] at ht
  obtain rfl : t = 31 := by simpa using Array.mem_of_getElem? ht
  exact plain0

/-- The second form's card. -/
theorem cardUpto : Rows.FrameChecksUptoCardSaid :=
  Claim7.holds_tied_plain_at .later [] _ _ _ _ saidUpto (fun _ h => by cases h) (by kernel_rfl) (fun _ h => by cases h) frameChecksUpto_row_tie rfl ⟨rfl, rfl⟩ (by kernel_rfl) rfl plain (by kernel_rfl)
end Go.Proofs.YtndoembhbfiokaaDoor.frameChecks
