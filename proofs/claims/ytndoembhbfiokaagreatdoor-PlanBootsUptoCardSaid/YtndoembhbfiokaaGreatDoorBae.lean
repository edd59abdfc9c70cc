/- A part of one law's card. -/
import Derived.Test.YtndoembhbfiokaaGreatDoorAav
set_option linter.unusedVariables false
set_option linter.unusedSimpArgs false
namespace Go.Proofs.YtndoembhbfiokaaGreatDoor.planBoots
open Go Go.Proofs.YtndoembhbfiokaaGreatDoor.Am Go.RowKit Go.ChangeShapes Go.WideShapes Go.ChangeAt

theorem params : Tryz.f3.params.toList = [31] := by rw [Tryz.params3]
theorem readable0 : Tryz.prog.readableRec 31 = true := by kernel_rfl
theorem inTypes0 : 31 < Tryz.prog.types.size := of_decide_eq_true (by kernel_rfl)
theorem read : ∀ t ∈ Tryz.f3.params.toList, Tryz.prog.readableRec t = true ∧ t < Tryz.prog.types.size := by
  rw [params]
  intro t ht
  obtain rfl := List.mem_singleton.1 ht; exact ⟨readable0, inTypes0⟩
theorem size : Tryz.f3.params.size = 1 := by kernel_rfl
theorem fnEq (H : Type) (ds : List (DataW H)) (h : ds.length = 1) : Rows.planBootsSpec.fn H ds = { results := [.lit (.bool true)], args := ds } := by
  match ds, h with
  | [d0], _ => rfl
theorem dec : DecA (@UB) Tryz.prog Tryz.f3.params.toList (fun x : CaseD10 × Unit => [encCase10 x.1]) (fun x => bkCase10 x.1 + 0) (fun x => True ∧ True) := by
  rw [params]; exact DecA.agg decCase10 Tryz.underlying31 DecA.nil
theorem res : Tryz.f3.resultTypes = #[4] := by kernel_rfl
theorem spec (x : CaseD10 × Unit) (h : True ∧ True) (hb : bkCase10 x.1 + 0 ≤ 1048576) : ACalc ctx 3 [encCase10 x.1] (.bool true) :=
  planBoots_spec ctx_sent x.1 (caseSmall10 (by omega))
theorem laidEq : Rows.planBootsUptoRow.laid = laidL := rfl

theorem contract (H : Type) (enc : TypeId × Value → H) (W : World) (base : Nat) (args : Array Value) (ds gs : List (DataW H)) (before : List MemPlace)
    (hval : ∀ (j : Nat) t v, Tryz.f3.params[j]? = some t → args[j]? = some v → Value.okWide Tryz.prog W .any base t v)
    (hW : DataW.Whole enc Tryz.prog Tryz.f3.params.toList Rows.planBootsSpec.vars false W args.toList ds gs before) (hk : Rows.uptoSmall H (ds ++ gs) = true) (hL : laidMetH Tryz.prog laidL W) :
    Calls Tryz.prog 3 args W fun e W' => ∃ v, e = .returned v ∧ Rows.planBootsSpec.post enc Tryz.prog Tryz.f3 false true false false W args v W' := by
  have hs := bulk_small hk
  rw [List.map_append, List.sum_append] at hs
  have hm : (ds.map (@UB H)).sum ≤ 1048576 := Nat.le_trans (Nat.le_add_right _ _) hs
  exact law_contract (X := ctx) (P := Tryz.prog) (base := base) (gs := gs) (before := before) rfl res Tryz.underlying4 laidOut read rfl (fun H ds h => fnEq H ds (h.trans size)) dec spec
    (by with_reducible exact hval) (by with_reducible exact hW) hm (sentOK_of hL)

end Go.Proofs.YtndoembhbfiokaaGreatDoor.planBoots
