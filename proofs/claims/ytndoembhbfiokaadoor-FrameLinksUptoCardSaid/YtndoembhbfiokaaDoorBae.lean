/- A part of one law's card. -/
import Derived.Test.YtndoembhbfiokaaDoorAas
set_option linter.unusedVariables false
set_option linter.unusedSimpArgs false
namespace Go.Proofs.YtndoembhbfiokaaDoor.frameLinks
open Go Go.Proofs.YtndoembhbfiokaaDoor.Am Go.RowKit Go.ChangeShapes Go.WideShapes Go.ChangeAt

theorem params : Tryd.f4.params.toList = [31, 3] := by rw [Tryd.params4]
theorem readable0 : Tryd.prog.readableRec 31 = true := by kernel_rfl
theorem inTypes0 : 31 < Tryd.prog.types.size := of_decide_eq_true (by kernel_rfl)
theorem readable1 : Tryd.prog.readableRec 3 = true := by kernel_rfl
theorem inTypes1 : 3 < Tryd.prog.types.size := of_decide_eq_true (by kernel_rfl)
theorem read : ∀ t ∈ Tryd.f4.params.toList, Tryd.prog.readableRec t = true ∧ t < Tryd.prog.types.size := by
  rw [params]
  intro t ht
  simp only [List.mem_cons, List.not_mem_nil, or_false] at ht
  rcases ht with rfl | rfl
  · exact ⟨readable0, inTypes0⟩
  · exact ⟨readable1, inTypes1⟩
theorem intNot : (∃ fs, Tryd.prog.underlying 3 = some (.struct fs)) ∨ (∃ n e, Tryd.prog.underlying 3 = some (.array n e)) → False := by
  rw [Tryd.underlying3]; rintro (⟨fs, h⟩ | ⟨n, e, h⟩) <;> cases h
theorem size : Tryd.f4.params.size = 2 := by kernel_rfl
theorem fnEq (H : Type) (ds : List (DataW H)) (h : ds.length = 2) : Rows.frameLinksSpec.fn H ds = { results := [.lit (.bool true)], args := ds } := by
  match ds, h with
  | [d0, d1], _ => rfl
theorem dec : DecA (@UB) Tryd.prog Tryd.f4.params.toList (fun x : CaseD × Int × Unit => [encCase x.1, encInt x.2.1]) (fun x => bkCase x.1 + (1 + 0)) (fun x => True ∧ ((Lit.int .i64 x.2.1).wf = true ∧ True)) := by
  rw [params]; exact DecA.agg decCase Tryd.underlying31 (DecA.one decIntW encInt (fun _ => rfl) intNot DecA.nil)
theorem res : Tryd.f4.resultTypes = #[4] := by kernel_rfl
theorem spec (x : CaseD × Int × Unit) (h : True ∧ ((Lit.int .i64 x.2.1).wf = true ∧ True)) (hb : bkCase x.1 + (1 + 0) ≤ 1048576) : ACalc ctx 4 [encCase x.1, encInt x.2.1] (.bool true) :=
  frameLinks_spec ctx_sent x.1 (caseSmall (by omega)) x.2.1
theorem laidEq : Rows.frameLinksUptoRow.laid = laidL := rfl

theorem contract (H : Type) (enc : TypeId × Value → H) (W : World) (base : Nat) (args : Array Value) (ds gs : List (DataW H)) (before : List MemPlace)
    (hval : ∀ (j : Nat) t v, Tryd.f4.params[j]? = some t → args[j]? = some v → Value.okWide Tryd.prog W .any base t v)
    (hW : DataW.Whole enc Tryd.prog Tryd.f4.params.toList Rows.frameLinksSpec.vars false W args.toList ds gs before) (hk : Rows.uptoSmall H (ds ++ gs) = true) (hL : laidMetH Tryd.prog laidL W) :
    Calls Tryd.prog 4 args W fun e W' => ∃ v, e = .returned v ∧ Rows.frameLinksSpec.post enc Tryd.prog Tryd.f4 false true false false W args v W' := by
  have hs := bulk_small hk
  rw [List.map_append, List.sum_append] at hs
  have hm : (ds.map (@UB H)).sum ≤ 1048576 := Nat.le_trans (Nat.le_add_right _ _) hs
  exact law_contract (X := ctx) (P := Tryd.prog) (base := base) (gs := gs) (before := before) rfl res Tryd.underlying4 laidOut read rfl (fun H ds h => fnEq H ds (h.trans size)) dec spec
    (by with_reducible exact hval) (by with_reducible exact hW) hm (sentOK_of hL)

end Go.Proofs.YtndoembhbfiokaaDoor.frameLinks
