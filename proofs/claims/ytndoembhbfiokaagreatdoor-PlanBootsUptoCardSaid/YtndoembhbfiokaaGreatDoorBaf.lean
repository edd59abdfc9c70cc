/- A part of one law's card. -/
import Derived.Test.YtndoembhbfiokaaGreatDoorAav
import Derived.Test.YtndoembhbfiokaaGreatDoorBae
set_option linter.unusedVariables false
set_option linter.unusedSimpArgs false
namespace Go.Proofs.YtndoembhbfiokaaGreatDoor.planBoots
open Go Go.Proofs.YtndoembhbfiokaaGreatDoor.Am Go.RowKit Go.ChangeShapes Go.WideShapes Go.ChangeAt

def args0 : Array Value := #[.agg #[.int .i64 0, .bool false, .slice none 0 0, .slice none 0 0, .slice none 0 0, .int .i64 0, .slice none 0 0, .int .i64 0, .bool false, .slice none 0 0, .slice none 0 0, .slice none 0 0, .int .i64 0, .slice none 0 0, .slice none 0 0, .int .i64 0, .int .u32 0]]
theorem reads (os : Os) {H : Type} (enc : TypeId × Value → H) : ∃ places, DataW.whole enc Tryz.prog ((laidWorld os).forCall (fun _ _ => 0) ⟨#[], args0, []⟩).memory Tryz.f3.params.toList Rows.planBootsSpec.vars false args0.toList 8 = some ([.agg [.agg [.lit (.int .i64 0), .lit (.bool false), .nil, .nil, .nil, .lit (.int .i64 0), .nil], .agg [.lit (.int .i64 0), .lit (.bool false), .nil, .nil, .nil, .lit (.int .i64 0), .nil], .nil, .lit (.int .i64 0), .lit (.int .u32 0)]], [], places) :=
  ⟨[], by kernel_rfl⟩

set_option maxRecDepth 100000 in
theorem lifted (os : Os) (started : os.Started) (H : Type) (enc : TypeId × Value → H) (F : Stop.Interp) :
    ReturnsInHanded {} Tryz.checked os 3 .any ((Rows.OpenSpec.upto Rows.planBootsSpec).preRow enc Tryz.prog Tryz.f3 Rows.planBootsUptoRow.domain false Rows.planBootsUptoRow.laid) (((Rows.OpenSpec.upto Rows.planBootsSpec).at F).post enc Tryz.prog Tryz.f3 false true false false) := by
  obtain ⟨places, hx⟩ := reads os enc
  refine returnsInHanded_of_row (C := Tryz.checked) (s := Rows.OpenSpec.upto Rows.planBootsSpec) own started (by kernel_rfl) Tryz.func3
    (witness_row_at (enc := enc) (C := Tryz.checked) false (laidWorld os) args0 rfl (by kernel_rfl) (by kernel_rfl) (by kernel_rfl)
      (OpenSpec.preRow_of_cond 8 hx (by kernel_rfl) (fun k hk => by cases hk; kernel_rfl) (by kernel_rfl) (laid_metH os _))) ?_
  intro W base args ds gs before hval hW _ hk _ hL _ _
  exact contract H enc W base args ds gs before hval hW (hk _ rfl) hL

end Go.Proofs.YtndoembhbfiokaaGreatDoor.planBoots
