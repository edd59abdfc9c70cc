/-
  PROVED: the card of the law ferrylaw10.PlanBoots, second form: it answers true, and its arguments read as before. CONDITIONS: what is handed in is of bulk at most 1048576; the package variables hold the errors that their initialisers lay.
-/
import Derived.Test.YtndoembhbfiokaaGreatDoorAav
import Derived.Test.YtndoembhbfiokaaGreatDoorBag
set_option linter.unusedVariables false
set_option linter.unusedSimpArgs false
namespace Go.Proofs.YtndoembhbfiokaaGreatDoor.planBoots
open Go Go.Proofs.YtndoembhbfiokaaGreatDoor.Am Go.RowKit Go.ChangeShapes Go.WideShapes Go.ChangeAt

theorem saidUpto : Rows.PlanBootsUptoSaid :=
  OpenClaim.holds_of_cond 3 Tryz.f3 rfl rfl rfl rfl rfl rfl rfl ⟨rfl, rfl, rfl, rfl, rfl⟩ rfl rfl rfl rfl rfl named Tryz.func3 closed inst wrap
    (fun os started H enc _ F => by rw [OpenClaim.pre_eq_preRow]; exact lifted os started H enc F)

theorem plain0 : Tryz.prog.wantsStandIn 31 = false := by kernel_rfl
theorem plain (f : FuncId) (fn : Func) (hf : Tryz.pinned.checked.prog.funcNamed "ferry/ferrylaw10.PlanBoots" = some f) (hfn : Tryz.pinned.checked.prog.funcs[f]? = some fn) :
    true = Tryz.pinned.checked.prog.looks [] ∧ ∀ (j : Nat) t, fn.params[j]? = some t → Tryz.pinned.checked.prog.wantsStandIn t = false := by
  obtain rfl : f = 3 := Option.some.inj ((show Tryz.prog.funcNamed "ferry/ferrylaw10.PlanBoots" = some 3 by kernel_rfl).symm.trans hf) |>.symm
  obtain rfl : fn = Tryz.f3 := (Option.some.inj (Tryz.func3.symm.trans hfn)).symm
  refine ⟨by kernel_rfl, fun j t ht => ?_⟩
  rw [Tryz.params3] at ht
  obtain rfl : t = 31 := by simpa using Array.mem_of_getElem? ht
  exact plain0

/-- The second form's card. -/
theorem cardUpto : Rows.PlanBootsUptoCardSaid :=
  Claim7.holds_tied_plain_at .later [] _ _ _ _ saidUpto (fun _ h => by cases h) (by kernel_rfl) (fun _ h => by cases h) planBootsUpto_row_tie rfl ⟨rfl, rfl⟩ (by kernel_rfl) rfl plain (by kernel_rfl)
end Go.Proofs.YtndoembhbfiokaaGreatDoor.planBoots
