/- The logic and the contracts that the laws stand on, part 9. -/
import Derived.Test.YtndoembhbfiokaaGreatDoorAah
/- Equations by which the simplifier walks: the operations. -/
set_option linter.unusedVariables false
set_option linter.unusedSimpArgs false
namespace Go.Proofs.YtndoembhbfiokaaGreatDoor.Am
open Go.RowKit

section
variable {X : Ctx} {N : Nat} {r : Regs} {H : AH} {l : Bool} {K : Post}
def hPick (c a b : AV) [K : Hid (Post)] : Prop := aPick c a b K.out
@[simp ↓] theorem aPick_hide (c a b : AV) (K : Post) : aPick c a b K = hPick c a b (K := ⟨K⟩) := (rfl)
theorem aPick_bool' (c : Bool) (a b : AV) : aPick (.bool c) a b K = K (if c then a else b) [] [] := (rfl)
@[simp] theorem aPick_bool (c : Bool) (a b : AV) : hPick (.bool c) a b (K := ⟨K⟩) = K (if c then a else b) [] [] := aPick_bool' ..
@[simp] theorem ite_bool (c : Prop) [Decidable c] (a b : Bool) : (if c then AV.bool a else AV.bool b) = AV.bool (if c then a else b) := by split <;> rfl
@[simp] theorem ite_int (c : Prop) [Decidable c] (k : IntKind) (a b : Int) : (if c then AV.int k a else AV.int k b) = AV.int k (if c then a else b) := by split <;> rfl
def hUn (op : UnOp) (x : AV) [K : Hid (Post)] : Prop := aUn op x K.out
@[simp ↓] theorem aUn_hide (op : UnOp) (x : AV) (K : Post) : aUn op x K = hUn op x (K := ⟨K⟩) := (rfl)
theorem aUn_not' (b : Bool) : aUn .not (.bool b) K = K (.bool !b) [] [] := (rfl)
@[simp] theorem aUn_not (b : Bool) : hUn .not (.bool b) (K := ⟨K⟩) = K (.bool !b) [] [] := aUn_not' ..
theorem aUn_neg' (k : IntKind) (n : Int) : aUn .neg (.int k n) K = K (.int k (k.wrap (0 - n))) [] [] := (rfl)
@[simp] theorem aUn_neg (k : IntKind) (n : Int) : hUn .neg (.int k n) (K := ⟨K⟩) = K (.int k (k.wrap (0 - n))) [] [] := aUn_neg' ..
theorem aUn_xor' (k : IntKind) (n : Int) : aUn .xor (.int k n) K = K (.int k (k.wrap (BitVec.ofInt k.bits (if k.signed then -1 else k.max) ^^^ BitVec.ofInt k.bits n).toNat)) [] [] := (rfl)
@[simp] theorem aUn_xor (k : IntKind) (n : Int) : hUn .xor (.int k n) (K := ⟨K⟩) = K (.int k (k.wrap (BitVec.ofInt k.bits (if k.signed then -1 else k.max) ^^^ BitVec.ofInt k.bits n).toNat)) [] [] := aUn_xor' ..
@[simp] theorem notNil_ptr (id ver i off : Nat) : (AV.ptr id ver i off).notNil = true := (rfl)
@[simp] theorem notNil_eptr (xs : List AV) (i off : Nat) : (AV.eptr xs i off).notNil = true := (rfl)
@[simp] theorem notNil_iface (t : TypeId) (v : AV) : (AV.iface t v).notNil = true := (rfl)

def hBin (X : Ctx) (op : BinOp) (t : TypeId) (x y : AV) (c : Bool) [K : Hid (Post)] : Prop := aBin X op t x y c K.out
@[simp ↓] theorem aBin_hide (X : Ctx) (op : BinOp) (t : TypeId) (x y : AV) (c : Bool) (K : Post) : aBin X op t x y c K = hBin X op t x y c (K := ⟨K⟩) := (rfl)
theorem int_beq (a b : Int) : (a == b) = decide (a = b) := by by_cases h : a = b <;> simp [h]
section ints
variable (t : TypeId) (k : IntKind) (a b : Int) (c : Bool)
theorem aBin_add' : aBin X .add t (.int k a) (.int k b) c K = K (.int k (k.wrap (a + b))) [] [] := by simp [-aBin_hide, aBin, intOp]
@[simp] theorem aBin_add : hBin X .add t (.int k a) (.int k b) c (K := ⟨K⟩) = K (.int k (k.wrap (a + b))) [] [] := aBin_add' ..
theorem aBin_sub' : aBin X .sub t (.int k a) (.int k b) c K = K (.int k (k.wrap (a - b))) [] [] := by simp [-aBin_hide, aBin, intOp]
@[simp] theorem aBin_sub : hBin X .sub t (.int k a) (.int k b) c (K := ⟨K⟩) = K (.int k (k.wrap (a - b))) [] [] := aBin_sub' ..
theorem aBin_mul' : aBin X .mul t (.int k a) (.int k b) c K = K (.int k (k.wrap (a * b))) [] [] := by simp [-aBin_hide, aBin, intOp]
@[simp] theorem aBin_mul : hBin X .mul t (.int k a) (.int k b) c (K := ⟨K⟩) = K (.int k (k.wrap (a * b))) [] [] := aBin_mul' ..
theorem aBin_and' : aBin X .and t (.int k a) (.int k b) c K = K (.int k (k.wrap (BitVec.ofInt k.bits a &&& BitVec.ofInt k.bits b).toNat)) [] [] := by simp [-aBin_hide, aBin, intOp]
@[simp] theorem aBin_and : hBin X .and t (.int k a) (.int k b) c (K := ⟨K⟩) = K (.int k (k.wrap (BitVec.ofInt k.bits a &&& BitVec.ofInt k.bits b).toNat)) [] [] := aBin_and' ..
theorem aBin_or' : aBin X .or t (.int k a) (.int k b) c K = K (.int k (k.wrap (BitVec.ofInt k.bits a ||| BitVec.ofInt k.bits b).toNat)) [] [] := by simp [-aBin_hide, aBin, intOp]
@[simp] theorem aBin_or : hBin X .or t (.int k a) (.int k b) c (K := ⟨K⟩) = K (.int k (k.wrap (BitVec.ofInt k.bits a ||| BitVec.ofInt k.bits b).toNat)) [] [] := aBin_or' ..
theorem aBin_xor' : aBin X .xor t (.int k a) (.int k b) c K = K (.int k (k.wrap (BitVec.ofInt k.bits a ^^^ BitVec.ofInt k.bits b).toNat)) [] [] := by simp [-aBin_hide, aBin, intOp]
@[simp] theorem aBin_xor : hBin X .xor t (.int k a) (.int k b) c (K := ⟨K⟩) = K (.int k (k.wrap (BitVec.ofInt k.bits a ^^^ BitVec.ofInt k.bits b).toNat)) [] [] := aBin_xor' ..
theorem aBin_andNot' : aBin X .andNot t (.int k a) (.int k b) c K = K (.int k (k.wrap (BitVec.ofInt k.bits a &&& ~~~ BitVec.ofInt k.bits b).toNat)) [] [] := by simp [-aBin_hide, aBin, intOp]
@[simp] theorem aBin_andNot : hBin X .andNot t (.int k a) (.int k b) c (K := ⟨K⟩) = K (.int k (k.wrap (BitVec.ofInt k.bits a &&& ~~~ BitVec.ofInt k.bits b).toNat)) [] [] := aBin_andNot' ..
theorem aBin_eql' : aBin X .eql t (.int k a) (.int k b) c K = K (.bool (decide (a = b))) [] [] := by
  simp only [aBin, intOp, true_and, Option.some.injEq, exists_eq_left', int_beq]
@[simp] theorem aBin_eql : hBin X .eql t (.int k a) (.int k b) c (K := ⟨K⟩) = K (.bool (decide (a = b))) [] [] := aBin_eql' ..
theorem aBin_neq' : aBin X .neq t (.int k a) (.int k b) c K = K (.bool (decide (a ≠ b))) [] [] := by
  simp only [aBin, intOp, true_and, Option.some.injEq, exists_eq_left', bne, int_beq, decide_not, ne_eq]
@[simp] theorem aBin_neq : hBin X .neq t (.int k a) (.int k b) c (K := ⟨K⟩) = K (.bool (decide (a ≠ b))) [] [] := aBin_neq' ..
theorem aBin_lss' : aBin X .lss t (.int k a) (.int k b) c K = K (.bool (decide (a < b))) [] [] := by simp only [aBin, intOp, true_and, Option.some.injEq, exists_eq_left']
@[simp] theorem aBin_lss : hBin X .lss t (.int k a) (.int k b) c (K := ⟨K⟩) = K (.bool (decide (a < b))) [] [] := aBin_lss' ..
theorem aBin_leq' : aBin X .leq t (.int k a) (.int k b) c K = K (.bool (decide (a ≤ b))) [] [] := by simp only [aBin, intOp, true_and, Option.some.injEq, exists_eq_left']
@[simp] theorem aBin_leq : hBin X .leq t (.int k a) (.int k b) c (K := ⟨K⟩) = K (.bool (decide (a ≤ b))) [] [] := aBin_leq' ..
theorem aBin_gtr' : aBin X .gtr t (.int k a) (.int k b) c K = K (.bool (decide (b < a))) [] [] := by simp only [aBin, intOp, true_and, Option.some.injEq, exists_eq_left', gt_iff_lt]
@[simp] theorem aBin_gtr : hBin X .gtr t (.int k a) (.int k b) c (K := ⟨K⟩) = K (.bool (decide (b < a))) [] [] := aBin_gtr' ..
theorem aBin_geq' : aBin X .geq t (.int k a) (.int k b) c K = K (.bool (decide (b ≤ a))) [] [] := by simp only [aBin, intOp, true_and, Option.some.injEq, exists_eq_left', ge_iff_le]
@[simp] theorem aBin_geq : hBin X .geq t (.int k a) (.int k b) c (K := ⟨K⟩) = K (.bool (decide (b ≤ a))) [] [] := aBin_geq' ..
theorem aBin_quo' : aBin X .quo t (.int k a) (.int k b) c K = aIf (b ≠ 0) (K (.int k (k.wrap (a.tdiv b))) [] []) := by simp only [aBin, aIf, true_and]
@[simp] theorem aBin_quo : hBin X .quo t (.int k a) (.int k b) c (K := ⟨K⟩) = aIf (b ≠ 0) (K (.int k (k.wrap (a.tdiv b))) [] []) := aBin_quo' ..
theorem aBin_rem' : aBin X .rem t (.int k a) (.int k b) c K = aIf (b ≠ 0) (K (.int k (a.tmod b)) [] []) := by simp only [aBin, aIf, true_and]
@[simp] theorem aBin_rem : hBin X .rem t (.int k a) (.int k b) c (K := ⟨K⟩) = aIf (b ≠ 0) (K (.int k (a.tmod b)) [] []) := aBin_rem' ..
theorem aBin_shl' (k' : IntKind) : aBin X .shl t (.int k a) (.int k' b) c K = aIf (0 ≤ b) (K (.int k (k.wrap (a * 2 ^ min b.toNat k.bits))) [] []) := by simp only [aBin, aIf]
@[simp] theorem aBin_shl (k' : IntKind) : hBin X .shl t (.int k a) (.int k' b) c (K := ⟨K⟩) = aIf (0 ≤ b) (K (.int k (k.wrap (a * 2 ^ min b.toNat k.bits))) [] []) := aBin_shl' ..
theorem aBin_shr' (k' : IntKind) : aBin X .shr t (.int k a) (.int k' b) c K = aIf (0 ≤ b) (K (.int k (a.fdiv (2 ^ min b.toNat k.bits))) [] []) := by simp only [aBin, aIf]
@[simp] theorem aBin_shr (k' : IntKind) : hBin X .shr t (.int k a) (.int k' b) c (K := ⟨K⟩) = aIf (0 ≤ b) (K (.int k (a.fdiv (2 ^ min b.toNat k.bits))) [] []) := aBin_shr' ..
end ints
theorem aBin_seq' (t : TypeId) (a b : List UInt8) (c : Bool) : aBin X .eql t (.str a) (.str b) c K = K (.bool (decide (a = b))) [] [] := by simp [-aBin_hide, aBin, strOp]
@[simp] theorem aBin_seq (t : TypeId) (a b : List UInt8) (c : Bool) : hBin X .eql t (.str a) (.str b) c (K := ⟨K⟩) = K (.bool (decide (a = b))) [] [] := aBin_seq' ..
theorem aBin_sne' (t : TypeId) (a b : List UInt8) (c : Bool) : aBin X .neq t (.str a) (.str b) c K = K (.bool (decide (a ≠ b))) [] [] := by simp [-aBin_hide, aBin, strOp]
@[simp] theorem aBin_sne (t : TypeId) (a b : List UInt8) (c : Bool) : hBin X .neq t (.str a) (.str b) c (K := ⟨K⟩) = K (.bool (decide (a ≠ b))) [] [] := aBin_sne' ..
theorem aBin_sadd' (t : TypeId) (a b : List UInt8) (c : Bool) : aBin X .add t (.str a) (.str b) c K = aIf (a.length + b.length ≤ 9223372036854775807) (K (.str (a ++ b)) [] []) := by simp [-aBin_hide, -aIf_hide, aBin, strOp, aIf]
@[simp] theorem aBin_sadd (t : TypeId) (a b : List UInt8) (c : Bool) : hBin X .add t (.str a) (.str b) c (K := ⟨K⟩) = aIf (a.length + b.length ≤ 9223372036854775807) (K (.str (a ++ b)) [] []) := aBin_sadd' ..
theorem aBin_beq' (t : TypeId) (a b : Bool) (c : Bool) : aBin X .eql t (.bool a) (.bool b) c K = aIf (X.P.underlying t = some .bool) (K (.bool (a == b)) [] []) := by simp [-aBin_hide, -aIf_hide, aBin, aIf]
@[simp] theorem aBin_beq (t : TypeId) (a b : Bool) (c : Bool) : hBin X .eql t (.bool a) (.bool b) c (K := ⟨K⟩) = aIf (X.P.underlying t = some .bool) (K (.bool (a == b)) [] []) := aBin_beq' ..
theorem aBin_bne' (t : TypeId) (a b : Bool) (c : Bool) : aBin X .neq t (.bool a) (.bool b) c K = aIf (X.P.underlying t = some .bool) (K (.bool (a != b)) [] []) := by simp [-aBin_hide, -aIf_hide, aBin, aIf]
@[simp] theorem aBin_bne (t : TypeId) (a b : Bool) (c : Bool) : hBin X .neq t (.bool a) (.bool b) c (K := ⟨K⟩) = aIf (X.P.underlying t = some .bool) (K (.bool (a != b)) [] []) := aBin_bne' ..
section nils
variable (t : TypeId)
theorem aBin_nil_eql {x y : AV} (h : ∀ K : Post, aBin X .eql t x y true K = (∃ b d, X.P.underlying t = some d ∧ nilOp d x y = some b ∧ K (.bool b) [] [])) :
    aBin X .eql t x y true K = aSome (X.P.underlying t) fun d => aSome (nilOp d x y) fun b => K (.bool b) [] [] := by
  rw [h]; apply propext; simp only [aSome]
  exact ⟨fun ⟨b, d, h1, h2, h3⟩ => ⟨d, h1, b, h2, h3⟩, fun ⟨d, h1, b, h2, h3⟩ => ⟨b, d, h1, h2, h3⟩⟩
theorem aBin_nil_neq {x y : AV} (h : ∀ K : Post, aBin X .neq t x y true K = (∃ b d, X.P.underlying t = some d ∧ nilOp d x y = some b ∧ K (.bool !b) [] [])) :
    aBin X .neq t x y true K = aSome (X.P.underlying t) fun d => aSome (nilOp d x y) fun b => K (.bool !b) [] [] := by
  rw [h]; apply propext; simp only [aSome]
  exact ⟨fun ⟨b, d, h1, h2, h3⟩ => ⟨d, h1, b, h2, h3⟩, fun ⟨d, h1, b, h2, h3⟩ => ⟨b, d, h1, h2, h3⟩⟩
theorem aBin_ne1' : aBin X .eql t .nili .nili true K = aSome (X.P.underlying t) fun d => aSome (nilOp d .nili .nili) fun b => K (.bool b) [] [] := aBin_nil_eql t fun K => by simp [-aBin_hide, aBin]
@[simp] theorem aBin_ne1 : hBin X .eql t .nili .nili true (K := ⟨K⟩) = aSome (X.P.underlying t) fun d => aSome (nilOp d .nili .nili) fun b => K (.bool b) [] [] := aBin_ne1' ..
theorem aBin_ne2' (u : TypeId) (v : AV) : aBin X .eql t (.iface u v) .nili true K = aSome (X.P.underlying t) fun d => aSome (nilOp d (.iface u v) .nili) fun b => K (.bool b) [] [] := aBin_nil_eql t fun K => by simp [-aBin_hide, aBin]
@[simp] theorem aBin_ne2 (u : TypeId) (v : AV) : hBin X .eql t (.iface u v) .nili true (K := ⟨K⟩) = aSome (X.P.underlying t) fun d => aSome (nilOp d (.iface u v) .nili) fun b => K (.bool b) [] [] := aBin_ne2' ..
theorem aBin_ne3' : aBin X .eql t .nilp .nilp true K = aSome (X.P.underlying t) fun d => aSome (nilOp d .nilp .nilp) fun b => K (.bool b) [] [] := aBin_nil_eql t fun K => by simp [-aBin_hide, aBin]
@[simp] theorem aBin_ne3 : hBin X .eql t .nilp .nilp true (K := ⟨K⟩) = aSome (X.P.underlying t) fun d => aSome (nilOp d .nilp .nilp) fun b => K (.bool b) [] [] := aBin_ne3' ..
theorem aBin_ne4' (id ver i off : Nat) : aBin X .eql t (.ptr id ver i off) .nilp true K = aSome (X.P.underlying t) fun d => aSome (nilOp d (.ptr id ver i off) .nilp) fun b => K (.bool b) [] [] := aBin_nil_eql t fun K => by simp [-aBin_hide, aBin]
@[simp] theorem aBin_ne4 (id ver i off : Nat) : hBin X .eql t (.ptr id ver i off) .nilp true (K := ⟨K⟩) = aSome (X.P.underlying t) fun d => aSome (nilOp d (.ptr id ver i off) .nilp) fun b => K (.bool b) [] [] := aBin_ne4' ..
theorem aBin_ne5' (xs : List AV) (i off : Nat) : aBin X .eql t (.eptr xs i off) .nilp true K = aSome (X.P.underlying t) fun d => aSome (nilOp d (.eptr xs i off) .nilp) fun b => K (.bool b) [] [] := aBin_nil_eql t fun K => by simp [-aBin_hide, aBin]
@[simp] theorem aBin_ne5 (xs : List AV) (i off : Nat) : hBin X .eql t (.eptr xs i off) .nilp true (K := ⟨K⟩) = aSome (X.P.underlying t) fun d => aSome (nilOp d (.eptr xs i off) .nilp) fun b => K (.bool b) [] [] := aBin_ne5' ..
theorem aBin_ne6' : aBin X .eql t .nilf .nilf true K = aSome (X.P.underlying t) fun d => aSome (nilOp d .nilf .nilf) fun b => K (.bool b) [] [] := aBin_nil_eql t fun K => by simp [-aBin_hide, aBin]
@[simp] theorem aBin_ne6 : hBin X .eql t .nilf .nilf true (K := ⟨K⟩) = aSome (X.P.underlying t) fun d => aSome (nilOp d .nilf .nilf) fun b => K (.bool b) [] [] := aBin_ne6' ..
theorem aBin_ne7' (f : Fn) (a b : List AV) : aBin X .eql t (.func f a b) .nilf true K = aSome (X.P.underlying t) fun d => aSome (nilOp d (.func f a b) .nilf) fun b => K (.bool b) [] [] := aBin_nil_eql t fun K => by simp [-aBin_hide, aBin]
@[simp] theorem aBin_ne7 (f : Fn) (a b : List AV) : hBin X .eql t (.func f a b) .nilf true (K := ⟨K⟩) = aSome (X.P.underlying t) fun d => aSome (nilOp d (.func f a b) .nilf) fun b => K (.bool b) [] [] := aBin_ne7' ..
theorem aBin_nn1' : aBin X .neq t .nili .nili true K = aSome (X.P.underlying t) fun d => aSome (nilOp d .nili .nili) fun b => K (.bool !b) [] [] := aBin_nil_neq t fun K => by simp [-aBin_hide, aBin]
@[simp] theorem aBin_nn1 : hBin X .neq t .nili .nili true (K := ⟨K⟩) = aSome (X.P.underlying t) fun d => aSome (nilOp d .nili .nili) fun b => K (.bool !b) [] [] := aBin_nn1' ..
theorem aBin_nn2' (u : TypeId) (v : AV) : aBin X .neq t (.iface u v) .nili true K = aSome (X.P.underlying t) fun d => aSome (nilOp d (.iface u v) .nili) fun b => K (.bool !b) [] [] := aBin_nil_neq t fun K => by simp [-aBin_hide, aBin]
@[simp] theorem aBin_nn2 (u : TypeId) (v : AV) : hBin X .neq t (.iface u v) .nili true (K := ⟨K⟩) = aSome (X.P.underlying t) fun d => aSome (nilOp d (.iface u v) .nili) fun b => K (.bool !b) [] [] := aBin_nn2' ..
theorem aBin_nn3' : aBin X .neq t .nilp .nilp true K = aSome (X.P.underlying t) fun d => aSome (nilOp d .nilp .nilp) fun b => K (.bool !b) [] [] := aBin_nil_neq t fun K => by simp [-aBin_hide, aBin]
@[simp] theorem aBin_nn3 : hBin X .neq t .nilp .nilp true (K := ⟨K⟩) = aSome (X.P.underlying t) fun d => aSome (nilOp d .nilp .nilp) fun b => K (.bool !b) [] [] := aBin_nn3' ..
theorem aBin_nn4' (id ver i off : Nat) : aBin X .neq t (.ptr id ver i off) .nilp true K = aSome (X.P.underlying t) fun d => aSome (nilOp d (.ptr id ver i off) .nilp) fun b => K (.bool !b) [] [] := aBin_nil_neq t fun K => by simp [-aBin_hide, aBin]
@[simp] theorem aBin_nn4 (id ver i off : Nat) : hBin X .neq t (.ptr id ver i off) .nilp true (K := ⟨K⟩) = aSome (X.P.underlying t) fun d => aSome (nilOp d (.ptr id ver i off) .nilp) fun b => K (.bool !b) [] [] := aBin_nn4' ..
theorem aBin_nn5' (xs : List AV) (i off : Nat) : aBin X .neq t (.eptr xs i off) .nilp true K = aSome (X.P.underlying t) fun d => aSome (nilOp d (.eptr xs i off) .nilp) fun b => K (.bool !b) [] [] := aBin_nil_neq t fun K => by simp [-aBin_hide, aBin]
@[simp] theorem aBin_nn5 (xs : List AV) (i off : Nat) : hBin X .neq t (.eptr xs i off) .nilp true (K := ⟨K⟩) = aSome (X.P.underlying t) fun d => aSome (nilOp d (.eptr xs i off) .nilp) fun b => K (.bool !b) [] [] := aBin_nn5' ..
theorem aBin_nn6' : aBin X .neq t .nilf .nilf true K = aSome (X.P.underlying t) fun d => aSome (nilOp d .nilf .nilf) fun b => K (.bool !b) [] [] := aBin_nil_neq t fun K => by simp [-aBin_hide, aBin]
@[simp] theorem aBin_nn6 : hBin X .neq t .nilf .nilf true (K := ⟨K⟩) = aSome (X.P.underlying t) fun d => aSome (nilOp d .nilf .nilf) fun b => K (.bool !b) [] [] := aBin_nn6' ..
theorem aBin_nn7' (f : Fn) (a b : List AV) : aBin X .neq t (.func f a b) .nilf true K = aSome (X.P.underlying t) fun d => aSome (nilOp d (.func f a b) .nilf) fun b => K (.bool !b) [] [] := aBin_nil_neq t fun K => by simp [-aBin_hide, aBin]
@[simp] theorem aBin_nn7 (f : Fn) (a b : List AV) : hBin X .neq t (.func f a b) .nilf true (K := ⟨K⟩) = aSome (X.P.underlying t) fun d => aSome (nilOp d (.func f a b) .nilf) fun b => K (.bool !b) [] [] := aBin_nn7' ..
end nils
theorem aBin_agg_eql' (t : TypeId) (xs ys : List AV) (c : Bool) : aBin X .eql t (.agg xs) (.agg ys) c K = aSome (eqOf X.P t) fun l => aSome (allEq l xs ys) fun b => K (.bool b) [] [] := by
  apply propext; simp [-aBin_hide, -aSome_hide, aBin, aSome]
@[simp] theorem aBin_agg_eql (t : TypeId) (xs ys : List AV) (c : Bool) : hBin X .eql t (.agg xs) (.agg ys) c (K := ⟨K⟩) = aSome (eqOf X.P t) fun l => aSome (allEq l xs ys) fun b => K (.bool b) [] [] := aBin_agg_eql' ..
theorem aBin_agg_neq' (t : TypeId) (xs ys : List AV) (c : Bool) : aBin X .neq t (.agg xs) (.agg ys) c K = aSome (eqOf X.P t) fun l => aSome (allEq l xs ys) fun b => K (.bool !b) [] [] := by
  apply propext; simp [-aBin_hide, -aSome_hide, aBin, aSome]
@[simp] theorem aBin_agg_neq (t : TypeId) (xs ys : List AV) (c : Bool) : hBin X .neq t (.agg xs) (.agg ys) c (K := ⟨K⟩) = aSome (eqOf X.P t) fun l => aSome (allEq l xs ys) fun b => K (.bool !b) [] [] := aBin_agg_neq' ..
@[simp] theorem constOp_const (v : Value) : constOp (.const v) = true := (rfl)
@[simp] theorem constOp_tmp (t : Tmp) : constOp (.tmp t) = false := (rfl)
attribute [simp] nilOp

/-! ### Loads, stores, addresses -/
def aLd (o : Option (Nat × Bool)) (x : AV) (off : Nat) (K : AV → Prop) : Prop := ∃ n g, o = some (n, g) ∧
    if g = true then off + n ≤ x.cells.length ∧ K (.agg ((x.cells.drop off).take n)) else ∃ c, x.cells[off]? = some c ∧ K c
def hLd (o : Option (Nat × Bool)) (x : AV) (off : Nat) [K : Hid (AV → Prop)] : Prop := aLd o x off K.out
@[simp ↓] theorem aLd_hide (o : Option (Nat × Bool)) (x : AV) (off : Nat) (K : AV → Prop) : aLd o x off K = hLd o x off (K := ⟨K⟩) := (rfl)
def hLoadX (P : Program) (t : TypeId) (x : AV) (off : Nat) [K : Hid (AV → Prop)] : Prop := loadX P t x off K.out
@[simp ↓] theorem loadX_hide (P : Program) (t : TypeId) (x : AV) (off : Nat) (K : AV → Prop) : loadX P t x off K = hLoadX P t x off (K := ⟨K⟩) := (rfl)
theorem loadX_eq' (P : Program) (t : TypeId) (x : AV) (off : Nat) (K : AV → Prop) : loadX P t x off K = aLd (ldOf P t) x off K := (rfl)
@[simp] theorem loadX_eq (P : Program) (t : TypeId) (x : AV) (off : Nat) (K : AV → Prop) : hLoadX P t x off (K := ⟨K⟩) = aLd (ldOf P t) x off K := loadX_eq' ..
theorem aLd_one' (n : Nat) (x : AV) (off : Nat) (K : AV → Prop) : aLd (some (n, false)) x off K = aSome (x.cells[off]?) K := by simp [-aLd_hide, -aSome_hide, aLd, aSome]
@[simp] theorem aLd_one (n : Nat) (x : AV) (off : Nat) (K : AV → Prop) : hLd (some (n, false)) x off (K := ⟨K⟩) = aSome (x.cells[off]?) K := aLd_one' ..
theorem aLd_agg' (n : Nat) (x : AV) (off : Nat) (K : AV → Prop) : aLd (some (n, true)) x off K = aIf (off + n ≤ x.cells.length) (K (.agg ((x.cells.drop off).take n))) := by simp [-aLd_hide, -aIf_hide, aLd, aIf]
@[simp] theorem aLd_agg (n : Nat) (x : AV) (off : Nat) (K : AV → Prop) : hLd (some (n, true)) x off (K := ⟨K⟩) = aIf (off + n ≤ x.cells.length) (K (.agg ((x.cells.drop off).take n))) := aLd_agg' ..
def hLoad (X : Ctx) (t : TypeId) (p : AV) (H : AH) [K : Hid (Post)] : Prop := aLoad X t p H K.out
@[simp ↓] theorem aLoad_hide (X : Ctx) (t : TypeId) (p : AV) (H : AH) (K : Post) : aLoad X t p H K = hLoad X t p H (K := ⟨K⟩) := (rfl)
theorem aLoad_eptr' (t : TypeId) (xs : List AV) (i off : Nat) : aLoad X t (.eptr xs i off) H K = aSome xs[i]? fun x => loadX X.P t x off fun v => K v [] [] := (rfl)
@[simp] theorem aLoad_eptr (t : TypeId) (xs : List AV) (i off : Nat) : hLoad X t (.eptr xs i off) H (K := ⟨K⟩) = aSome xs[i]? fun x => loadX X.P t x off fun v => K v [] [] := aLoad_eptr' ..
theorem aLoad_ptr' (t : TypeId) (id ver i off : Nat) : aLoad X t (.ptr id ver i off) H K = aRow (H.get id) ver fun xs sz => aSome xs[i]? fun x => loadX X.P t x off fun v => K v [id] [] := by
  apply propext
  simp only [aLoad, aRow, aSome]
  exact ⟨fun ⟨xs, sz, x, h1, h2, h3⟩ => ⟨xs, sz, h1, x, h2, h3⟩, fun ⟨xs, sz, h1, x, h2, h3⟩ => ⟨xs, sz, x, h1, h2, h3⟩⟩
@[simp] theorem aLoad_ptr (t : TypeId) (id ver i off : Nat) : hLoad X t (.ptr id ver i off) H (K := ⟨K⟩) = aRow (H.get id) ver fun xs sz => aSome xs[i]? fun x => loadX X.P t x off fun v => K v [id] [] := aLoad_ptr' ..
theorem aLoad_gptr' (t : TypeId) (g : Nat) : aLoad X t (.gptr g) H K = aSome (X.Γ g) fun v => aSome (X.P.underlying t) fun d => aIf (aggT d = false) (K v [] []) := by
  apply propext
  simp only [aLoad, aSome, aIf]
  exact ⟨fun ⟨v, d, h1, h2, h3, h4⟩ => ⟨v, h1, d, h2, h3, h4⟩, fun ⟨v, h1, d, h2, h3, h4⟩ => ⟨v, d, h1, h2, h3, h4⟩⟩
@[simp] theorem aLoad_gptr (t : TypeId) (g : Nat) : hLoad X t (.gptr g) H (K := ⟨K⟩) = aSome (X.Γ g) fun v => aSome (X.P.underlying t) fun d => aIf (aggT d = false) (K v [] []) := aLoad_gptr' ..
attribute [simp] aggT

def hStore (X : Ctx) (t : TypeId) (p x : AV) (H : AH) [K : Hid (Post)] : Prop := aStore X t p x H K.out
@[simp ↓] theorem aStore_hide (X : Ctx) (t : TypeId) (p x : AV) (H : AH) (K : Post) : aStore X t p x H K = hStore X t p x H (K := ⟨K⟩) := (rfl)
theorem aStore_ptr' (t : TypeId) (id ver i off : Nat) (x : AV) : aStore X t (.ptr id ver i off) x H K = aRow (H.get id) ver fun xs sz => aSome xs[i]? fun e => aSome (szOf X.P t) fun n =>
    aIf (x.good = true ∧ x.cells.all AV.one = true ∧ x.cells.length = n ∧ off + n ≤ e.cells.length ∧ (e.isAgg = true ∨ (off = 0 ∧ x.isAgg = false))) (K .any [id] [(id, .row (xs.set i (e.splice off x)) sz ver)]) := by
  apply propext
  simp only [aStore, aRow, aSome, aIf]
  exact ⟨fun ⟨xs, sz, e, n, h1, h2, h3, h4, h5, h6, h7, h8, h9⟩ => ⟨xs, sz, h1, e, h2, n, h3, ⟨h4, h5, h6, h7, h8⟩, h9⟩, fun ⟨xs, sz, h1, e, h2, n, h3, ⟨h4, h5, h6, h7, h8⟩, h9⟩ => ⟨xs, sz, e, n, h1, h2, h3, h4, h5, h6, h7, h8, h9⟩⟩
@[simp] theorem aStore_ptr (t : TypeId) (id ver i off : Nat) (x : AV) : hStore X t (.ptr id ver i off) x H (K := ⟨K⟩) = aRow (H.get id) ver fun xs sz => aSome xs[i]? fun e => aSome (szOf X.P t) fun n =>
    aIf (x.good = true ∧ x.cells.all AV.one = true ∧ x.cells.length = n ∧ off + n ≤ e.cells.length ∧ (e.isAgg = true ∨ (off = 0 ∧ x.isAgg = false))) (K .any [id] [(id, .row (xs.set i (e.splice off x)) sz ver)]) := aStore_ptr' ..
@[simp] theorem splice_agg (es : List AV) (off : Nat) (x : AV) : (AV.agg es).splice off x = .agg (es.take off ++ x.cells ++ es.drop (off + x.cells.length)) := (rfl)
@[simp] theorem splice_int (k : IntKind) (n : Int) (off : Nat) (x : AV) : (AV.int k n).splice off x = x := (rfl)
@[simp] theorem splice_bool (b : Bool) (off : Nat) (x : AV) : (AV.bool b).splice off x = x := (rfl)
@[simp] theorem cells_any : AV.any.cells = [AV.any] := (rfl)
@[simp] theorem good_any : AV.any.good = false := (rfl)
@[simp] theorem one_any : AV.any.one = false := (rfl)
@[simp] theorem isAgg_any : AV.any.isAgg = false := (rfl)
@[simp] theorem isAddr_any : AV.any.isAddr = false := (rfl)
@[simp] theorem cells_bool (b : Bool) : (AV.bool b).cells = [AV.bool b] := (rfl)
@[simp] theorem good_bool (b : Bool) : (AV.bool b).good = true := (rfl)
@[simp] theorem one_bool (b : Bool) : (AV.bool b).one = true := (rfl)
@[simp] theorem isAgg_bool (b : Bool) : (AV.bool b).isAgg = false := (rfl)
@[simp] theorem isAddr_bool (b : Bool) : (AV.bool b).isAddr = false := (rfl)
@[simp] theorem cells_int (k : IntKind) (n : Int) : (AV.int k n).cells = [AV.int k n] := (rfl)
@[simp] theorem good_int (k : IntKind) (n : Int) : (AV.int k n).good = true := (rfl)
@[simp] theorem one_int (k : IntKind) (n : Int) : (AV.int k n).one = true := (rfl)
@[simp] theorem isAgg_int (k : IntKind) (n : Int) : (AV.int k n).isAgg = false := (rfl)
@[simp] theorem isAddr_int (k : IntKind) (n : Int) : (AV.int k n).isAddr = false := (rfl)
@[simp] theorem cells_str (l : List UInt8) : (AV.str l).cells = [AV.str l] := (rfl)
@[simp] theorem good_str (l : List UInt8) : (AV.str l).good = true := (rfl)
@[simp] theorem one_str (l : List UInt8) : (AV.str l).one = true := (rfl)
@[simp] theorem isAgg_str (l : List UInt8) : (AV.str l).isAgg = false := (rfl)
@[simp] theorem isAddr_str (l : List UInt8) : (AV.str l).isAddr = false := (rfl)
@[simp] theorem cells_nilp : AV.nilp.cells = [AV.nilp] := (rfl)
@[simp] theorem good_nilp : AV.nilp.good = true := (rfl)
@[simp] theorem one_nilp : AV.nilp.one = true := (rfl)
@[simp] theorem isAgg_nilp : AV.nilp.isAgg = false := (rfl)
@[simp] theorem isAddr_nilp : AV.nilp.isAddr = false := (rfl)
@[simp] theorem cells_ptr (id ver i off : Nat) : (AV.ptr id ver i off).cells = [AV.ptr id ver i off] := (rfl)
@[simp] theorem good_ptr (id ver i off : Nat) : (AV.ptr id ver i off).good = true := (rfl)
@[simp] theorem one_ptr (id ver i off : Nat) : (AV.ptr id ver i off).one = true := (rfl)
@[simp] theorem isAgg_ptr (id ver i off : Nat) : (AV.ptr id ver i off).isAgg = false := (rfl)
@[simp] theorem isAddr_ptr (id ver i off : Nat) : (AV.ptr id ver i off).isAddr = true := (rfl)
@[simp] theorem cells_eptr (xs : List AV) (i off : Nat) : (AV.eptr xs i off).cells = [AV.eptr xs i off] := (rfl)
@[simp] theorem good_eptr (xs : List AV) (i off : Nat) : (AV.eptr xs i off).good = true := (rfl)
@[simp] theorem one_eptr (xs : List AV) (i off : Nat) : (AV.eptr xs i off).one = true := (rfl)
@[simp] theorem isAgg_eptr (xs : List AV) (i off : Nat) : (AV.eptr xs i off).isAgg = false := (rfl)
@[simp] theorem isAddr_eptr (xs : List AV) (i off : Nat) : (AV.eptr xs i off).isAddr = true := (rfl)
@[simp] theorem cells_opq (k : Nat) : (AV.opq k).cells = [AV.opq k] := (rfl)
@[simp] theorem good_opq (k : Nat) : (AV.opq k).good = false := (rfl)
@[simp] theorem one_opq (k : Nat) : (AV.opq k).one = false := (rfl)
@[simp] theorem isAgg_opq (k : Nat) : (AV.opq k).isAgg = false := (rfl)
@[simp] theorem isAddr_opq (k : Nat) : (AV.opq k).isAddr = false := (rfl)
@[simp] theorem cells_gptr (g : Nat) : (AV.gptr g).cells = [AV.gptr g] := (rfl)
@[simp] theorem good_gptr (g : Nat) : (AV.gptr g).good = true := (rfl)
@[simp] theorem one_gptr (g : Nat) : (AV.gptr g).one = true := (rfl)
@[simp] theorem isAgg_gptr (g : Nat) : (AV.gptr g).isAgg = false := (rfl)
@[simp] theorem isAddr_gptr (g : Nat) : (AV.gptr g).isAddr = false := (rfl)
@[simp] theorem cells_sl (id ver off len : Nat) : (AV.sl id ver off len).cells = [AV.sl id ver off len] := (rfl)
@[simp] theorem good_sl (id ver off len : Nat) : (AV.sl id ver off len).good = true := (rfl)
@[simp] theorem one_sl (id ver off len : Nat) : (AV.sl id ver off len).one = true := (rfl)
@[simp] theorem isAgg_sl (id ver off len : Nat) : (AV.sl id ver off len).isAgg = false := (rfl)
@[simp] theorem isAddr_sl (id ver off len : Nat) : (AV.sl id ver off len).isAddr = false := (rfl)
@[simp] theorem cells_asl (id ver i off len : Nat) : (AV.asl id ver i off len).cells = [AV.asl id ver i off len] := (rfl)
@[simp] theorem good_asl (id ver i off len : Nat) : (AV.asl id ver i off len).good = true := (rfl)
@[simp] theorem one_asl (id ver i off len : Nat) : (AV.asl id ver i off len).one = true := (rfl)
@[simp] theorem isAgg_asl (id ver i off len : Nat) : (AV.asl id ver i off len).isAgg = false := (rfl)
@[simp] theorem isAddr_asl (id ver i off len : Nat) : (AV.asl id ver i off len).isAddr = false := (rfl)
@[simp] theorem cells_fsl (xs : List AV) : (AV.fsl xs).cells = [AV.fsl xs] := (rfl)
@[simp] theorem good_fsl (xs : List AV) : (AV.fsl xs).good = true := (rfl)
@[simp] theorem one_fsl (xs : List AV) : (AV.fsl xs).one = true := (rfl)
@[simp] theorem isAgg_fsl (xs : List AV) : (AV.fsl xs).isAgg = false := (rfl)
@[simp] theorem isAddr_fsl (xs : List AV) : (AV.fsl xs).isAddr = false := (rfl)
@[simp] theorem cells_csl (xs : List AV) : (AV.csl xs).cells = [AV.csl xs] := (rfl)
@[simp] theorem good_csl (xs : List AV) : (AV.csl xs).good = true := (rfl)
@[simp] theorem one_csl (xs : List AV) : (AV.csl xs).one = true := (rfl)
@[simp] theorem isAgg_csl (xs : List AV) : (AV.csl xs).isAgg = false := (rfl)
@[simp] theorem isAddr_csl (xs : List AV) : (AV.csl xs).isAddr = false := (rfl)
@[simp] theorem cells_func (fn : Fn) (fs cs : List AV) : (AV.func fn fs cs).cells = [AV.func fn fs cs] := (rfl)
@[simp] theorem good_func (fn : Fn) (fs cs : List AV) : (AV.func fn fs cs).good = true := (rfl)
@[simp] theorem one_func (fn : Fn) (fs cs : List AV) : (AV.func fn fs cs).one = true := (rfl)
@[simp] theorem isAgg_func (fn : Fn) (fs cs : List AV) : (AV.func fn fs cs).isAgg = false := (rfl)
@[simp] theorem isAddr_func (fn : Fn) (fs cs : List AV) : (AV.func fn fs cs).isAddr = false := (rfl)
@[simp] theorem cells_nilf : AV.nilf.cells = [AV.nilf] := (rfl)
@[simp] theorem good_nilf : AV.nilf.good = true := (rfl)
@[simp] theorem one_nilf : AV.nilf.one = true := (rfl)
@[simp] theorem isAgg_nilf : AV.nilf.isAgg = false := (rfl)
@[simp] theorem isAddr_nilf : AV.nilf.isAddr = false := (rfl)
@[simp] theorem cells_iface (t : TypeId) (v : AV) : (AV.iface t v).cells = [AV.iface t v] := (rfl)
@[simp] theorem good_iface (t : TypeId) (v : AV) : (AV.iface t v).good = true := (rfl)
@[simp] theorem one_iface (t : TypeId) (v : AV) : (AV.iface t v).one = true := (rfl)
@[simp] theorem isAgg_iface (t : TypeId) (v : AV) : (AV.iface t v).isAgg = false := (rfl)
@[simp] theorem isAddr_iface (t : TypeId) (v : AV) : (AV.iface t v).isAddr = false := (rfl)
@[simp] theorem cells_nili : AV.nili.cells = [AV.nili] := (rfl)
@[simp] theorem good_nili : AV.nili.good = true := (rfl)
@[simp] theorem one_nili : AV.nili.one = true := (rfl)
@[simp] theorem isAgg_nili : AV.nili.isAgg = false := (rfl)
@[simp] theorem isAddr_nili : AV.nili.isAddr = false := (rfl)
@[simp] theorem cells_agg (cs : List AV) : (AV.agg cs).cells = cs := (rfl)
@[simp] theorem good_agg (cs : List AV) : (AV.agg cs).good = true := (rfl)
@[simp] theorem one_agg (cs : List AV) : (AV.agg cs).one = false := (rfl)
@[simp] theorem isAgg_agg (cs : List AV) : (AV.agg cs).isAgg = true := (rfl)
@[simp] theorem isAddr_agg (cs : List AV) : (AV.agg cs).isAddr = false := (rfl)
@[simp] theorem cells_tup (vs : List AV) : (AV.tup vs).cells = [AV.tup vs] := (rfl)
@[simp] theorem good_tup (vs : List AV) : (AV.tup vs).good = true := (rfl)
@[simp] theorem one_tup (vs : List AV) : (AV.tup vs).one = false := (rfl)
@[simp] theorem isAgg_tup (vs : List AV) : (AV.tup vs).isAgg = false := (rfl)
@[simp] theorem isAddr_tup (vs : List AV) : (AV.tup vs).isAddr = false := (rfl)
@[simp] theorem cells_map (id : Nat) : (AV.map id).cells = [AV.map id] := (rfl)
@[simp] theorem good_map (id : Nat) : (AV.map id).good = true := (rfl)
@[simp] theorem one_map (id : Nat) : (AV.map id).one = true := (rfl)
@[simp] theorem isAgg_map (id : Nat) : (AV.map id).isAgg = false := (rfl)
@[simp] theorem isAddr_map (id : Nat) : (AV.map id).isAddr = false := (rfl)
@[simp] theorem shift_ptr (id ver i off k : Nat) : (AV.ptr id ver i off).shift k = .ptr id ver i (off + k) := (rfl)
@[simp] theorem shift_eptr (xs : List AV) (i off k : Nat) : (AV.eptr xs i off).shift k = .eptr xs i (off + k) := (rfl)

def aFld (o : Option (Nat × Nat × Bool)) (K : Nat → Nat → Bool → Prop) : Prop := ∃ off n g, o = some (off, n, g) ∧ K off n g
def hFld (o : Option (Nat × Nat × Bool)) [K : Hid (Nat → Nat → Bool → Prop)] : Prop := aFld o K.out
@[simp ↓] theorem aFld_hide (o : Option (Nat × Nat × Bool)) (K : Nat → Nat → Bool → Prop) : aFld o K = hFld o (K := ⟨K⟩) := (rfl)
theorem aFld_some' (off n : Nat) (g : Bool) (K : Nat → Nat → Bool → Prop) : aFld (some (off, n, g)) K = K off n g := by
  apply propext; simp only [aFld]
  exact ⟨fun ⟨a, b, c, h, hK⟩ => by cases h; exact hK, fun h => ⟨_, _, _, rfl, h⟩⟩
@[simp] theorem aFld_some (off n : Nat) (g : Bool) (K : Nat → Nat → Bool → Prop) : hFld (some (off, n, g)) (K := ⟨K⟩) = K off n g := aFld_some' ..
def hFieldAddr (X : Ctx) (s : TypeId) (p : AV) (f : Nat) [K : Hid (Post)] : Prop := aFieldAddr X s p f K.out
@[simp ↓] theorem aFieldAddr_hide (X : Ctx) (s : TypeId) (p : AV) (f : Nat) (K : Post) : aFieldAddr X s p f K = hFieldAddr X s p f (K := ⟨K⟩) := (rfl)
theorem aFieldAddr_eq' (s : TypeId) (p : AV) (f : Nat) : aFieldAddr X s p f K = aFld (fldOf X.P s f) fun off n g => aIf (n ≠ 0 ∧ p.isAddr = true) (K (p.shift off) [] []) := by
  apply propext; simp only [aFieldAddr, aFld, aIf]
  exact ⟨fun ⟨a, b, c, h, h1, h2, h3⟩ => ⟨a, b, c, h, ⟨h1, h2⟩, h3⟩, fun ⟨a, b, c, h, ⟨h1, h2⟩, h3⟩ => ⟨a, b, c, h, h1, h2, h3⟩⟩
@[simp] theorem aFieldAddr_eq (s : TypeId) (p : AV) (f : Nat) : hFieldAddr X s p f (K := ⟨K⟩) = aFld (fldOf X.P s f) fun off n g => aIf (n ≠ 0 ∧ p.isAddr = true) (K (p.shift off) [] []) := aFieldAddr_eq' ..
def aPart (cs : List AV) (off n : Nat) (g : Bool) (K : AV → Prop) : Prop := if g = true then off + n ≤ cs.length ∧ K (.agg ((cs.drop off).take n)) else ∃ c, cs[off]? = some c ∧ K c
def hPart (cs : List AV) (off n : Nat) (g : Bool) [K : Hid (AV → Prop)] : Prop := aPart cs off n g K.out
@[simp ↓] theorem aPart_hide (cs : List AV) (off n : Nat) (g : Bool) (K : AV → Prop) : aPart cs off n g K = hPart cs off n g (K := ⟨K⟩) := (rfl)
theorem aPart_true' (cs : List AV) (off n : Nat) (K : AV → Prop) : aPart cs off n true K = aIf (off + n ≤ cs.length) (K (.agg ((cs.drop off).take n))) := by simp [-aPart_hide, -aIf_hide, aPart, aIf]
@[simp] theorem aPart_true (cs : List AV) (off n : Nat) (K : AV → Prop) : hPart cs off n true (K := ⟨K⟩) = aIf (off + n ≤ cs.length) (K (.agg ((cs.drop off).take n))) := aPart_true' ..
theorem aPart_false' (cs : List AV) (off n : Nat) (K : AV → Prop) : aPart cs off n false K = aSome cs[off]? K := by simp [-aPart_hide, -aSome_hide, aPart, aSome]
@[simp] theorem aPart_false (cs : List AV) (off n : Nat) (K : AV → Prop) : hPart cs off n false (K := ⟨K⟩) = aSome cs[off]? K := aPart_false' ..
def hField (X : Ctx) (s : TypeId) (x : AV) (f : Nat) [K : Hid (Post)] : Prop := aField X s x f K.out
@[simp ↓] theorem aField_hide (X : Ctx) (s : TypeId) (x : AV) (f : Nat) (K : Post) : aField X s x f K = hField X s x f (K := ⟨K⟩) := (rfl)
theorem aField_agg' (s : TypeId) (cs : List AV) (f : Nat) : aField X s (.agg cs) f K = aFld (fldOf X.P s f) fun off n g => aPart cs off n g fun v => K v [] [] := by
  apply propext; simp only [aField, aFld, aPart]

@[simp] theorem aField_agg (s : TypeId) (cs : List AV) (f : Nat) : hField X s (.agg cs) f (K := ⟨K⟩) = aFld (fldOf X.P s f) fun off n g => aPart cs off n g fun v => K v [] [] := aField_agg' ..
def aTr {A B C : Type} (o : Option (A × B × C)) (K : A → B → C → Prop) : Prop := ∃ a b c, o = some (a, b, c) ∧ K a b c
def hTr {A B C : Type} (o : Option (A × B × C)) [K : Hid (A → B → C → Prop)] : Prop := aTr o K.out
@[simp ↓] theorem aTr_hide {A B C : Type} (o : Option (A × B × C)) (K : A → B → C → Prop) : aTr o K = hTr o (K := ⟨K⟩) := (rfl)
theorem aTr_some' {A B C : Type} (a : A) (b : B) (c : C) (K : A → B → C → Prop) : aTr (some (a, b, c)) K = K a b c := by
  apply propext; simp only [aTr]
  exact ⟨fun ⟨a, b, c, h, hK⟩ => by cases h; exact hK, fun h => ⟨_, _, _, rfl, h⟩⟩

@[simp] theorem aTr_some {A B C : Type} (a : A) (b : B) (c : C) (K : A → B → C → Prop) : hTr (some (a, b, c)) (K := ⟨K⟩) = K a b c := aTr_some' ..
def hIndexAddr (H : AH) (X : Ctx) (t : TypeId) (x i : AV) [K : Hid (Post)] : Prop := aIndexAddr (H := H) X t x i K.out
@[simp ↓] theorem aIndexAddr_hide (H : AH) (X : Ctx) (t : TypeId) (x i : AV) (K : Post) : aIndexAddr (H := H) X t x i K = hIndexAddr H X t x i (K := ⟨K⟩) := (rfl)
theorem aIndexAddr_fsl' (t : TypeId) (xs : List AV) (k : IntKind) (j : Int) : aIndexAddr (H := H) X t (.fsl xs) (.int k j) K = aTr (slOf X.P t) fun e n by_ => aIf (0 ≤ j) (aSome xs[j.toNat]? fun y => aIf (y.cells.length = n) (K (.eptr xs j.toNat 0) [] [])) := by
  apply propext; simp only [aIndexAddr, aTr, aIf, aSome]
  exact ⟨fun ⟨e, n, b, y, h1, h2, h3, h4, h5⟩ => ⟨e, n, b, h1, h2, y, h3, h4, h5⟩, fun ⟨e, n, b, h1, h2, y, h3, h4, h5⟩ => ⟨e, n, b, y, h1, h2, h3, h4, h5⟩⟩
@[simp] theorem aIndexAddr_fsl (t : TypeId) (xs : List AV) (k : IntKind) (j : Int) : hIndexAddr H X t (.fsl xs) (.int k j) (K := ⟨K⟩) = aTr (slOf X.P t) fun e n by_ => aIf (0 ≤ j) (aSome xs[j.toNat]? fun y => aIf (y.cells.length = n) (K (.eptr xs j.toNat 0) [] [])) := aIndexAddr_fsl' ..
theorem aIndexAddr_csl' (t : TypeId) (xs : List AV) (k : IntKind) (j : Int) : aIndexAddr (H := H) X t (.csl xs) (.int k j) K = aTr (slOf X.P t) fun e n by_ => aIf (0 ≤ j) (aSome xs[j.toNat]? fun y => aIf (y.cells.length = n) (K (.eptr xs j.toNat 0) [] [])) := by
  apply propext; simp only [aIndexAddr, aTr, aIf, aSome]
  exact ⟨fun ⟨e, n, b, y, h1, h2, h3, h4, h5⟩ => ⟨e, n, b, h1, h2, y, h3, h4, h5⟩, fun ⟨e, n, b, h1, h2, y, h3, h4, h5⟩ => ⟨e, n, b, y, h1, h2, h3, h4, h5⟩⟩
@[simp] theorem aIndexAddr_csl (t : TypeId) (xs : List AV) (k : IntKind) (j : Int) : hIndexAddr H X t (.csl xs) (.int k j) (K := ⟨K⟩) = aTr (slOf X.P t) fun e n by_ => aIf (0 ≤ j) (aSome xs[j.toNat]? fun y => aIf (y.cells.length = n) (K (.eptr xs j.toNat 0) [] [])) := aIndexAddr_csl' ..
theorem aIndexAddr_sl' (t : TypeId) (id ver off len : Nat) (k : IntKind) (j : Int) : aIndexAddr (H := H) X t (.sl id ver off len) (.int k j) K =
    aTr (slOf X.P t) fun e n by_ => aIf (0 ≤ j ∧ j.toNat < len) (aRow (H.get id) ver fun xs sz => aIf (sz = n) (K (.ptr id ver (off + j.toNat) 0) [id] [])) := by
  apply propext; simp only [aIndexAddr, aTr, aIf, aRow]
  exact ⟨fun ⟨e, n, b, xs, h1, h2, h3, h4, h5⟩ => ⟨e, n, b, h1, ⟨h2, h3⟩, xs, n, h4, rfl, h5⟩, fun ⟨e, n, b, h1, ⟨h2, h3⟩, xs, sz, h4, h6, h5⟩ => ⟨e, n, b, xs, h1, h2, h3, h6 ▸ h4, h5⟩⟩
@[simp] theorem aIndexAddr_sl (t : TypeId) (id ver off len : Nat) (k : IntKind) (j : Int) : hIndexAddr H X t (.sl id ver off len) (.int k j) (K := ⟨K⟩) =     aTr (slOf X.P t) fun e n by_ => aIf (0 ≤ j ∧ j.toNat < len) (aRow (H.get id) ver fun xs sz => aIf (sz = n) (K (.ptr id ver (off + j.toNat) 0) [id] [])) := aIndexAddr_sl' ..
theorem aIndexAddr_ptr' (t : TypeId) (id ver i off : Nat) (k : IntKind) (j : Int) : aIndexAddr (H := H) X t (.ptr id ver i off) (.int k j) K =
    aTr (arOf X.P t) fun n e s => aIf (0 ≤ j ∧ j < n) (K (.ptr id ver i (off + j.toNat * s)) [] []) := by
  apply propext; simp only [aIndexAddr, aTr, aIf, AV.isAddr, AV.shift, true_and]
  exact ⟨fun ⟨n, e, s, h1, h2, h3, h4⟩ => ⟨n, e, s, h1, ⟨h2, h3⟩, h4⟩, fun ⟨n, e, s, h1, ⟨h2, h3⟩, h4⟩ => ⟨n, e, s, h1, h2, h3, h4⟩⟩
@[simp] theorem aIndexAddr_ptr (t : TypeId) (id ver i off : Nat) (k : IntKind) (j : Int) : hIndexAddr H X t (.ptr id ver i off) (.int k j) (K := ⟨K⟩) =     aTr (arOf X.P t) fun n e s => aIf (0 ≤ j ∧ j < n) (K (.ptr id ver i (off + j.toNat * s)) [] []) := aIndexAddr_ptr' ..
theorem aIndexAddr_eptr' (t : TypeId) (xs : List AV) (i off : Nat) (k : IntKind) (j : Int) : aIndexAddr (H := H) X t (.eptr xs i off) (.int k j) K =
    aTr (arOf X.P t) fun n e s => aIf (0 ≤ j ∧ j < n) (K (.eptr xs i (off + j.toNat * s)) [] []) := by
  apply propext; simp only [aIndexAddr, aTr, aIf, AV.isAddr, AV.shift, true_and]
  exact ⟨fun ⟨n, e, s, h1, h2, h3, h4⟩ => ⟨n, e, s, h1, ⟨h2, h3⟩, h4⟩, fun ⟨n, e, s, h1, ⟨h2, h3⟩, h4⟩ => ⟨n, e, s, h1, h2, h3, h4⟩⟩
@[simp] theorem aIndexAddr_eptr (t : TypeId) (xs : List AV) (i off : Nat) (k : IntKind) (j : Int) : hIndexAddr H X t (.eptr xs i off) (.int k j) (K := ⟨K⟩) =     aTr (arOf X.P t) fun n e s => aIf (0 ≤ j ∧ j < n) (K (.eptr xs i (off + j.toNat * s)) [] []) := aIndexAddr_eptr' ..
def hIndex (X : Ctx) (t : TypeId) (x i : AV) [K : Hid (Post)] : Prop := aIndex X t x i K.out
@[simp ↓] theorem aIndex_hide (X : Ctx) (t : TypeId) (x i : AV) (K : Post) : aIndex X t x i K = hIndex X t x i (K := ⟨K⟩) := (rfl)
theorem aIndex_str' (t : TypeId) (s : List UInt8) (k : IntKind) (j : Int) : aIndex X t (.str s) (.int k j) K = aIf (X.P.underlying t = some .string ∧ 0 ≤ j) (aSome s[j.toNat]? fun b => K (.int .u8 b.toNat) [] []) := by
  apply propext; simp only [aIndex, aIf, aSome, and_assoc]
@[simp] theorem aIndex_str (t : TypeId) (s : List UInt8) (k : IntKind) (j : Int) : hIndex X t (.str s) (.int k j) (K := ⟨K⟩) = aIf (X.P.underlying t = some .string ∧ 0 ≤ j) (aSome s[j.toNat]? fun b => K (.int .u8 b.toNat) [] []) := aIndex_str' ..
theorem aIndex_agg' (t : TypeId) (cs : List AV) (k : IntKind) (j : Int) : aIndex X t (.agg cs) (.int k j) K = aTr (arOf X.P t) fun n e s => aIf (ldOf X.P e = some (1, false) ∧ 0 ≤ j ∧ j < n) (aSome cs[j.toNat]? fun c => K c [] []) := by
  apply propext; simp only [aIndex, aTr, aIf, aSome, and_assoc]
@[simp] theorem aIndex_agg (t : TypeId) (cs : List AV) (k : IntKind) (j : Int) : hIndex X t (.agg cs) (.int k j) (K := ⟨K⟩) = aTr (arOf X.P t) fun n e s => aIf (ldOf X.P e = some (1, false) ∧ 0 ≤ j ∧ j < n) (aSome cs[j.toNat]? fun c => K c [] []) := aIndex_agg' ..
def hExtract (x : AV) (i : Nat) [K : Hid (Post)] : Prop := aExtract x i K.out
@[simp ↓] theorem aExtract_hide (x : AV) (i : Nat) (K : Post) : aExtract x i K = hExtract x i (K := ⟨K⟩) := (rfl)
theorem aExtract_tup' (vs : List AV) (i : Nat) : aExtract (.tup vs) i K = aSome vs[i]? fun v => K v [] [] := (rfl)

@[simp] theorem aExtract_tup (vs : List AV) (i : Nat) : hExtract (.tup vs) i (K := ⟨K⟩) = aSome vs[i]? fun v => K v [] [] := aExtract_tup' ..
/-! ### Values and memory made -/
def hBuild (X : Ctx) (t : TypeId) (ps : List (Nat × AV)) [K : Hid (Post)] : Prop := aBuild X t ps K.out
@[simp ↓] theorem aBuild_hide (X : Ctx) (t : TypeId) (ps : List (Nat × AV)) (K : Post) : aBuild X t ps K = hBuild X t ps (K := ⟨K⟩) := (rfl)
def aPlc (o : Option (List (Nat × Nat) × List AV)) (K : List (Nat × Nat) → List AV → Prop) : Prop := ∃ a b, o = some (a, b) ∧ K a b
def hPlc (o : Option (List (Nat × Nat) × List AV)) [K : Hid (List (Nat × Nat) → List AV → Prop)] : Prop := aPlc o K.out
@[simp ↓] theorem aPlc_hide (o : Option (List (Nat × Nat) × List AV)) (K : List (Nat × Nat) → List AV → Prop) : aPlc o K = hPlc o (K := ⟨K⟩) := (rfl)
theorem aPlc_some' (a : List (Nat × Nat)) (b : List AV) (K : List (Nat × Nat) → List AV → Prop) : aPlc (some (a, b)) K = K a b := by
  apply propext; simp only [aPlc]
  exact ⟨fun ⟨a, b, h, hK⟩ => by cases h; exact hK, fun h => ⟨_, _, rfl, h⟩⟩
@[simp] theorem aPlc_some (a : List (Nat × Nat)) (b : List AV) (K : List (Nat × Nat) → List AV → Prop) : hPlc (some (a, b)) (K := ⟨K⟩) = K a b := aPlc_some' ..
theorem aBuild_eq' (t : TypeId) (ps : List (Nat × AV)) : aBuild X t ps K = aPlc (plcOf X.P t) fun pl z => aSome (fillA (fun i => pl[i]?) z ps) fun cs => K (.agg cs) [] [] := by
  apply propext; simp only [aBuild, aPlc, aSome]
@[simp] theorem aBuild_eq (t : TypeId) (ps : List (Nat × AV)) : hBuild X t ps (K := ⟨K⟩) = aPlc (plcOf X.P t) fun pl z => aSome (fillA (fun i => pl[i]?) z ps) fun cs => K (.agg cs) [] [] := aBuild_eq' ..
@[simp] theorem fillA_nil (place : Nat → Option (Nat × Nat)) (cs : List AV) : fillA place cs [] = some cs := (rfl)
@[simp] theorem fillA_cons (place : Nat → Option (Nat × Nat)) (cs : List AV) (i : Nat) (v : AV) (rest : List (Nat × AV)) : fillA place cs ((i, v) :: rest) = (place i).bind fun p =>
    if v.good = true ∧ v.cells.length = p.2 ∧ p.1 + p.2 ≤ cs.length then fillA place (cs.take p.1 ++ v.cells ++ cs.drop (p.1 + p.2)) rest else none := by
  simp only [fillA]; cases place i <;> rfl
def hBuildSlice (X : Ctx) (lv : Bool) (t : TypeId) (len : Nat) (ps : List (Nat × AV)) (H : AH) [K : Hid (Post)] : Prop := aBuildSlice X lv t len ps H K.out
@[simp ↓] theorem aBuildSlice_hide (X : Ctx) (lv : Bool) (t : TypeId) (len : Nat) (ps : List (Nat × AV)) (H : AH) (K : Post) : aBuildSlice X lv t len ps H K = hBuildSlice X lv t len ps H (K := ⟨K⟩) := (rfl)
theorem aBuildSlice_f' (t : TypeId) (len : Nat) (ps : List (Nat × AV)) : aBuildSlice X false t len ps H K = aTr (slOf X.P t) fun e n by_ =>
    aIf ((zeOf X.P e).isSome = true ∧ len * n ≤ 16777216 ∧ ps.map (·.1) = List.range len ∧ (∀ p ∈ ps, p.2.good = true ∧ p.2.cells.length = n)) (K (.csl (ps.map (·.2))) [] []) := by
  apply propext; simp only [aBuildSlice, aTr, aIf, and_assoc, Bool.false_eq_true, if_false]
@[simp] theorem aBuildSlice_f (t : TypeId) (len : Nat) (ps : List (Nat × AV)) : hBuildSlice X false t len ps H (K := ⟨K⟩) = aTr (slOf X.P t) fun e n by_ =>
    aIf ((zeOf X.P e).isSome = true ∧ len * n ≤ 16777216 ∧ ps.map (·.1) = List.range len ∧ (∀ p ∈ ps, p.2.good = true ∧ p.2.cells.length = n)) (K (.csl (ps.map (·.2))) [] []) := aBuildSlice_f' ..
theorem aBuildSlice_t' (t : TypeId) (len : Nat) (ps : List (Nat × AV)) : aBuildSlice X true t len ps H K = aTr (slOf X.P t) fun e n by_ =>
    aIf ((zeOf X.P e).isSome = true ∧ len * n ≤ 16777216 ∧ ps.map (·.1) = List.range len ∧ (∀ p ∈ ps, p.2.good = true ∧ p.2.cells.length = n)) (K (.sl H.nx 0 0 len) [H.nx] [(H.nx, .row (ps.map (·.2)) n 0)]) := by
  apply propext; simp only [aBuildSlice, aTr, aIf, and_assoc, if_true, AH.fresh, true_and]
@[simp] theorem aBuildSlice_t (t : TypeId) (len : Nat) (ps : List (Nat × AV)) : hBuildSlice X true t len ps H (K := ⟨K⟩) = aTr (slOf X.P t) fun e n by_ =>
    aIf ((zeOf X.P e).isSome = true ∧ len * n ≤ 16777216 ∧ ps.map (·.1) = List.range len ∧ (∀ p ∈ ps, p.2.good = true ∧ p.2.cells.length = n)) (K (.sl H.nx 0 0 len) [H.nx] [(H.nx, .row (ps.map (·.2)) n 0)]) := aBuildSlice_t' ..
def hAlloc (X : Ctx) (t : TypeId) (H : AH) [K : Hid (Post)] : Prop := aAlloc X t H K.out
@[simp ↓] theorem aAlloc_hide (X : Ctx) (t : TypeId) (H : AH) (K : Post) : aAlloc X t H K = hAlloc X t H (K := ⟨K⟩) := (rfl)
theorem aAlloc_eq' (t : TypeId) : aAlloc X t H K = aSome (zeOf X.P t) fun z => aIf (z.good = true) (K (.ptr H.nx 0 0 0) [H.nx] [(H.nx, .row [z] z.cells.length 0)]) := by
  apply propext; simp only [aAlloc, aSome, aIf, AH.fresh, true_and]
@[simp] theorem aAlloc_eq (t : TypeId) : hAlloc X t H (K := ⟨K⟩) = aSome (zeOf X.P t) fun z => aIf (z.good = true) (K (.ptr H.nx 0 0 0) [H.nx] [(H.nx, .row [z] z.cells.length 0)]) := aAlloc_eq' ..
def hBox (x : AV) (H : AH) [K : Hid (Post)] : Prop := aBox x H K.out
@[simp ↓] theorem aBox_hide (x : AV) (H : AH) (K : Post) : aBox x H K = hBox x H (K := ⟨K⟩) := (rfl)
theorem aBox_eq' (x : AV) : aBox x H K = aIf (x.good = true) (K (.ptr H.nx 0 0 0) [H.nx] [(H.nx, .row [x] x.cells.length 0)]) := by
  apply propext; simp only [aBox, aIf, AH.fresh, true_and]

@[simp] theorem aBox_eq (x : AV) : hBox x H (K := ⟨K⟩) = aIf (x.good = true) (K (.ptr H.nx 0 0 0) [H.nx] [(H.nx, .row [x] x.cells.length 0)]) := aBox_eq' ..
def hSrc (x : AV) (H : AH) [K : Hid (List AV → List Nat → Prop)] : Prop := aSrc x H K.out
@[simp ↓] theorem aSrc_hide (x : AV) (H : AH) (K : List AV → List Nat → Prop) : aSrc x H K = hSrc x H (K := ⟨K⟩) := (rfl)
theorem aSrc_fsl' (ys : List AV) (K : List AV → List Nat → Prop) : aSrc (.fsl ys) H K = K ys [] := (rfl)
@[simp] theorem aSrc_fsl (ys : List AV) (K : List AV → List Nat → Prop) : hSrc (.fsl ys) H (K := ⟨K⟩) = K ys [] := aSrc_fsl' ..
theorem aSrc_csl' (ys : List AV) (K : List AV → List Nat → Prop) : aSrc (.csl ys) H K = K ys [] := (rfl)
@[simp] theorem aSrc_csl (ys : List AV) (K : List AV → List Nat → Prop) : hSrc (.csl ys) H (K := ⟨K⟩) = K ys [] := aSrc_csl' ..
theorem aSrc_sl' (id ver off len : Nat) (K : List AV → List Nat → Prop) : aSrc (.sl id ver off len) H K = aRow (H.get id) ver fun zs sz => aIf (off + len ≤ zs.length) (K ((zs.drop off).take len) [id]) := by
  apply propext; simp only [aSrc, aRow, aIf]
@[simp] theorem aSrc_sl (id ver off len : Nat) (K : List AV → List Nat → Prop) : hSrc (.sl id ver off len) H (K := ⟨K⟩) = aRow (H.get id) ver fun zs sz => aIf (off + len ≤ zs.length) (K ((zs.drop off).take len) [id]) := aSrc_sl' ..
def hAppend (X : Ctx) (lv : Bool) (t : TypeId) (s x : AV) (H : AH) [K : Hid (Post)] : Prop := aAppend X lv t s x H K.out
@[simp ↓] theorem aAppend_hide (X : Ctx) (lv : Bool) (t : TypeId) (s x : AV) (H : AH) (K : Post) : aAppend X lv t s x H K = hAppend X lv t s x H (K := ⟨K⟩) := (rfl)
theorem aAppend_c' (t : TypeId) (xs : List AV) (x : AV) : aAppend X false t (.csl xs) x H K = aTr (apOf X.P t) fun e n by_ => aSrc x H fun ys rd => aIf ((∀ y ∈ ys, y.cells.length = n ∧ y.cells.all AV.one = true) ∧
    (∀ x ∈ xs, x.cells.length = n) ∧ (xs.length + ys.length) * by_ ≤ 140737488355328) (K (.fsl (xs ++ ys)) rd []) := by
  apply propext; simp only [aAppend, aTr, aIf, and_assoc, Bool.false_eq_true, if_false]
@[simp] theorem aAppend_c (t : TypeId) (xs : List AV) (x : AV) : hAppend X false t (.csl xs) x H (K := ⟨K⟩) = aTr (apOf X.P t) fun e n by_ => aSrc x H fun ys rd => aIf ((∀ y ∈ ys, y.cells.length = n ∧ y.cells.all AV.one = true) ∧
    (∀ x ∈ xs, x.cells.length = n) ∧ (xs.length + ys.length) * by_ ≤ 140737488355328) (K (.fsl (xs ++ ys)) rd []) := aAppend_c' ..
theorem aAppend_l' (t : TypeId) (xs : List AV) (x : AV) : aAppend X true t (.csl xs) x H K = aTr (apOf X.P t) fun e n by_ => aSrc x H fun ys rd => aIf ((∀ y ∈ ys, y.cells.length = n ∧ y.cells.all AV.one = true) ∧
    (∀ x ∈ xs, x.cells.length = n) ∧ (xs.length + ys.length) * by_ ≤ 140737488355328 ∧ (xs = [] ∨ ys ≠ [])) (K (.sl H.nx 0 0 (xs.length + ys.length)) (H.nx :: rd) [(H.nx, .row (xs ++ ys) n 0)]) := by
  apply propext; simp only [aAppend, aTr, aIf, and_assoc, if_true, AH.fresh, true_and]
@[simp] theorem aAppend_l (t : TypeId) (xs : List AV) (x : AV) : hAppend X true t (.csl xs) x H (K := ⟨K⟩) = aTr (apOf X.P t) fun e n by_ => aSrc x H fun ys rd => aIf ((∀ y ∈ ys, y.cells.length = n ∧ y.cells.all AV.one = true) ∧
    (∀ x ∈ xs, x.cells.length = n) ∧ (xs.length + ys.length) * by_ ≤ 140737488355328 ∧ (xs = [] ∨ ys ≠ [])) (K (.sl H.nx 0 0 (xs.length + ys.length)) (H.nx :: rd) [(H.nx, .row (xs ++ ys) n 0)]) := aAppend_l' ..
theorem aAppend_sl' (b : Bool) (t : TypeId) (id ver len : Nat) (x : AV) : aAppend X b t (.sl id ver 0 len) x H K = aTr (apOf X.P t) fun e n by_ => aSrc x H fun ys rd => aIf (∀ y ∈ ys, y.cells.length = n ∧ y.cells.all AV.one = true)
    (aRow (H.get id) ver fun zs sz => aIf (sz = n ∧ len = zs.length ∧ (len + ys.length) * by_ ≤ 140737488355328) (K (.sl id (ver + 1) 0 (len + ys.length)) (id :: rd) [(id, .row (zs ++ ys) n (ver + 1))])) := by
  apply propext; simp only [aAppend, aTr, aIf, aRow, and_assoc, true_and]
  have e : ∀ (n by_ : Nat) (ys : List AV) (rd : List Nat), (∃ zs, H.get id = .row zs n ver ∧ len = zs.length ∧ (len + ys.length) * by_ ≤ 140737488355328 ∧ K (.sl id (ver + 1) 0 (len + ys.length)) (id :: rd) [(id, .row (zs ++ ys) n (ver + 1))]) =
      ∃ zs sz, H.get id = .row zs sz ver ∧ sz = n ∧ len = zs.length ∧ (len + ys.length) * by_ ≤ 140737488355328 ∧ K (.sl id (ver + 1) 0 (len + ys.length)) (id :: rd) [(id, .row (zs ++ ys) n (ver + 1))] := fun n by_ ys rd => propext
    ⟨fun ⟨zs, h1, h2⟩ => ⟨zs, n, h1, rfl, h2⟩, fun ⟨zs, sz, h1, h3, h2⟩ => ⟨zs, h3 ▸ h1, h2⟩⟩
  simp only [e]

@[simp] theorem aAppend_sl (b : Bool) (t : TypeId) (id ver len : Nat) (x : AV) : hAppend X b t (.sl id ver 0 len) x H (K := ⟨K⟩) = aTr (apOf X.P t) fun e n by_ => aSrc x H fun ys rd => aIf (∀ y ∈ ys, y.cells.length = n ∧ y.cells.all AV.one = true)
    (aRow (H.get id) ver fun zs sz => aIf (sz = n ∧ len = zs.length ∧ (len + ys.length) * by_ ≤ 140737488355328) (K (.sl id (ver + 1) 0 (len + ys.length)) (id :: rd) [(id, .row (zs ++ ys) n (ver + 1))])) := aAppend_sl' ..
def hLen (X : Ctx) (t : TypeId) (x : AV) [K : Hid (Post)] : Prop := aLen X t x K.out
@[simp ↓] theorem aLen_hide (X : Ctx) (t : TypeId) (x : AV) (K : Post) : aLen X t x K = hLen X t x (K := ⟨K⟩) := (rfl)
theorem aLen_eq' (t : TypeId) (x : AV) : aLen X t x K = aSome (X.P.underlying t) fun d => aSome (lenOf d x) fun n => K (.int .i64 n) [] [] := by
  apply propext; simp only [aLen, aSome]
  exact ⟨fun ⟨d, n, h1, h2, h3⟩ => ⟨d, h1, n, h2, h3⟩, fun ⟨d, h1, n, h2, h3⟩ => ⟨d, n, h1, h2, h3⟩⟩
@[simp] theorem aLen_eq (t : TypeId) (x : AV) : hLen X t x (K := ⟨K⟩) = aSome (X.P.underlying t) fun d => aSome (lenOf d x) fun n => K (.int .i64 n) [] [] := aLen_eq' ..
attribute [simp] lenOf bnd
def hSlice (H : AH) (X : Ctx) (t : TypeId) (x : AV) (lo hi mx : Option AV) [K : Hid (Post)] : Prop := aSlice (H := H) X t x lo hi mx K.out
@[simp ↓] theorem aSlice_hide (H : AH) (X : Ctx) (t : TypeId) (x : AV) (lo hi mx : Option AV) (K : Post) : aSlice (H := H) X t x lo hi mx K = hSlice H X t x lo hi mx (K := ⟨K⟩) := (rfl)
theorem aSlice_str' (t : TypeId) (s : List UInt8) (lo hi : Option AV) : aSlice (H := H) X t (.str s) lo hi none K = aIf (X.P.underlying t = some .string) (aSome (bnd lo 0) fun l => aSome (bnd hi s.length) fun h => aIf (0 ≤ l ∧ l ≤ h ∧ h ≤ s.length) (K (.str ((s.drop l.toNat).take (h - l).toNat)) [] [])) := by
  apply propext; simp only [aSlice, aIf, aSome, Option.isNone_none, true_and]
  exact ⟨fun ⟨h0, l, h, h1, h2, h3, h4, h5, h6⟩ => ⟨h0, l, h1, h, h2, ⟨h3, h4, h5⟩, h6⟩, fun ⟨h0, l, h1, h, h2, ⟨h3, h4, h5⟩, h6⟩ => ⟨h0, l, h, h1, h2, h3, h4, h5, h6⟩⟩
@[simp] theorem aSlice_str (t : TypeId) (s : List UInt8) (lo hi : Option AV) : hSlice H X t (.str s) lo hi none (K := ⟨K⟩) = aIf (X.P.underlying t = some .string) (aSome (bnd lo 0) fun l => aSome (bnd hi s.length) fun h => aIf (0 ≤ l ∧ l ≤ h ∧ h ≤ s.length) (K (.str ((s.drop l.toNat).take (h - l).toNat)) [] [])) := aSlice_str' ..
theorem aSlice_fsl' (t : TypeId) (xs : List AV) (lo hi : Option AV) : aSlice (H := H) X t (.fsl xs) lo hi none K = aTr (slOf X.P t) fun e n by_ => aSome (bnd lo 0) fun l => aSome (bnd hi xs.length) fun h =>
    aIf ((∀ y ∈ xs, y.cells.length = n) ∧ 0 ≤ l ∧ l ≤ h ∧ h ≤ xs.length) (K (.fsl ((xs.drop l.toNat).take (h - l).toNat)) [] []) := by
  apply propext; simp only [aSlice, aIf, aSome, aTr]
  exact ⟨fun ⟨e, n, b, l, h, h0, h1, h2, h3, h4, h5, h6, h7⟩ => ⟨e, n, b, h0, l, h2, h, h3, ⟨h1, h4, h5, h6⟩, h7⟩, fun ⟨e, n, b, h0, l, h2, h, h3, ⟨h1, h4, h5, h6⟩, h7⟩ => ⟨e, n, b, l, h, h0, h1, h2, h3, h4, h5, h6, h7⟩⟩
@[simp] theorem aSlice_fsl (t : TypeId) (xs : List AV) (lo hi : Option AV) : hSlice H X t (.fsl xs) lo hi none (K := ⟨K⟩) = aTr (slOf X.P t) fun e n by_ => aSome (bnd lo 0) fun l => aSome (bnd hi xs.length) fun h =>
    aIf ((∀ y ∈ xs, y.cells.length = n) ∧ 0 ≤ l ∧ l ≤ h ∧ h ≤ xs.length) (K (.fsl ((xs.drop l.toNat).take (h - l).toNat)) [] []) := aSlice_fsl' ..
theorem aSlice_fsl3' (t : TypeId) (xs : List AV) (lo : Option AV) (k : IntKind) (m : Int) : aSlice (H := H) X t (.fsl xs) lo (some (.int k m)) (some (.int k m)) K = aTr (slOf X.P t) fun e n by_ => aSome (bnd lo 0) fun l =>
    aIf ((∀ y ∈ xs, y.cells.length = n) ∧ 0 ≤ l ∧ l ≤ m ∧ m ≤ xs.length) (K (.csl ((xs.drop l.toNat).take (m - l).toNat)) [] []) := by
  apply propext; simp only [aSlice, aIf, aSome, aTr, bnd, Option.some.injEq, Option.isSome_some, true_and]
  exact ⟨fun ⟨e, n, b, l, h, h0, h1, h2, h3, h4, h5, h6, h8, h7⟩ => by subst h3; exact ⟨e, n, b, h0, l, h2, ⟨h1, h4, h5, h6⟩, h7⟩, fun ⟨e, n, b, h0, l, h2, ⟨h1, h4, h5, h6⟩, h7⟩ => ⟨e, n, b, l, m, h0, h1, h2, rfl, h4, h5, h6, rfl, h7⟩⟩
@[simp] theorem aSlice_fsl3 (t : TypeId) (xs : List AV) (lo : Option AV) (k : IntKind) (m : Int) : hSlice H X t (.fsl xs) lo (some (.int k m)) (some (.int k m)) (K := ⟨K⟩) = aTr (slOf X.P t) fun e n by_ => aSome (bnd lo 0) fun l =>
    aIf ((∀ y ∈ xs, y.cells.length = n) ∧ 0 ≤ l ∧ l ≤ m ∧ m ≤ xs.length) (K (.csl ((xs.drop l.toNat).take (m - l).toNat)) [] []) := aSlice_fsl3' ..
theorem aSlice_arr' (t : TypeId) (id ver i off : Nat) : aSlice (H := H) X t (.ptr id ver i off) none none none K = aTr (arOf X.P t) fun n e s => aRow (H.get id) ver fun xs sz => aSome xs[i]? fun y => aIf (s = 1 ∧ off + n ≤ y.cells.length ∧ 0 < n) (K (.asl id ver i off n) [id] []) := by
  apply propext; simp only [aSlice, aTr, aRow, aSome, aIf, true_and]
  exact ⟨fun ⟨n, e, xs, sz, y, h1, h2, h3, h4, h5, h6⟩ => ⟨n, e, 1, h1, xs, sz, h2, y, h3, ⟨rfl, h4, h5⟩, h6⟩, fun ⟨n, e, s, h1, xs, sz, h2, y, h3, ⟨h0, h4, h5⟩, h6⟩ => ⟨n, e, xs, sz, y, h0 ▸ h1, h2, h3, h4, h5, h6⟩⟩
@[simp] theorem aSlice_arr (t : TypeId) (id ver i off : Nat) : hSlice H X t (.ptr id ver i off) none none none (K := ⟨K⟩) = aTr (arOf X.P t) fun n e s => aRow (H.get id) ver fun xs sz => aSome xs[i]? fun y => aIf (s = 1 ∧ off + n ≤ y.cells.length ∧ 0 < n) (K (.asl id ver i off n) [id] []) := aSlice_arr' ..
def hCopy (X : Ctx) (t s : TypeId) (d x : AV) (H : AH) [K : Hid (Post)] : Prop := aCopy X t s d x H K.out
@[simp ↓] theorem aCopy_hide (X : Ctx) (t s : TypeId) (d x : AV) (H : AH) (K : Post) : aCopy X t s d x H K = hCopy X t s d x H (K := ⟨K⟩) := (rfl)
theorem aCopy_str (t s : TypeId) (id ver i off len : Nat) (l : List UInt8) {e : TypeId} {by_ : Nat} {xs : List AV} {sz : Nat} {es : List AV} (h1 : slOf X.P t = some (e, 1, by_)) (h2 : H.get id = .row xs sz ver) (h3 : xs[i]? = some (.agg es)) (h4 : off + len ≤ es.length)
    (h : K (.int .i64 (Nat.min l.length len)) [id] [(id, .row (xs.set i (.agg (es.take off ++ (l.take len).map encB ++ es.drop (off + (l.take len).length)))) sz ver)]) : aCopy X t s (.asl id ver i off len) (.str l) H K :=
  ⟨e, by_, xs, sz, es, h1, h2, h3, h4, h⟩
def hMinMax (mx : Bool) (x y : AV) [K : Hid (Post)] : Prop := aMinMax mx x y K.out
@[simp ↓] theorem aMinMax_hide (mx : Bool) (x y : AV) (K : Post) : aMinMax mx x y K = hMinMax mx x y (K := ⟨K⟩) := (rfl)
@[simp] theorem aMin_int (k k' : IntKind) (a b : Int) : hMinMax false (.int k a) (.int k' b) (K := ⟨K⟩) = K (.int k (if b < a then b else a)) [] [] := (rfl)
@[simp] theorem aMax_int (k k' : IntKind) (a b : Int) : hMinMax true (.int k a) (.int k' b) (K := ⟨K⟩) = K (.int k (if a < b then b else a)) [] [] := (rfl)
def hLookup (X : Ctx) (t : TypeId) (x i : AV) (H : AH) [K : Hid (Post)] : Prop := aLookup X t x i H K.out
@[simp ↓] theorem aLookup_hide (X : Ctx) (t : TypeId) (x i : AV) (H : AH) (K : Post) : aLookup X t x i H K = hLookup X t x i H (K := ⟨K⟩) := (rfl)
theorem aLookup_mk (t : TypeId) (id : Nat) (k : IntKind) (n : Int) {z : AV} (ms : List (Int × AV)) (h1 : mapOf X.P t = some (k, z)) (h2 : H.get id = .mapo (encM k ms)) (h : K ((getM ms n).getD z) [id] []) : aLookup X t (.map id) (.int k n) H K := ⟨z, ms, h1, h2, h⟩
def hMapUpdate (X : Ctx) (t : TypeId) (x i v : AV) (H : AH) [K : Hid (Post)] : Prop := aMapUpdate X t x i v H K.out
@[simp ↓] theorem aMapUpdate_hide (X : Ctx) (t : TypeId) (x i v : AV) (H : AH) (K : Post) : aMapUpdate X t x i v H K = hMapUpdate X t x i v H (K := ⟨K⟩) := (rfl)
theorem aMapUpdate_mk (t : TypeId) (id : Nat) (k : IntKind) (n : Int) (v : AV) {z : AV} (ms : List (Int × AV)) (h1 : mapOf X.P t = some (k, z)) (h2 : H.get id = .mapo (encM k ms)) (h : K .any [id] [(id, .mapo (encM k (putM ms n v)))]) : aMapUpdate X t (.map id) (.int k n) v H K := ⟨z, ms, h1, h2, h⟩
theorem aSlice_sl' (t : TypeId) (id ver off len : Nat) (lo hi : Option AV) : aSlice (H := H) X t (.sl id ver off len) lo hi none K = aTr (slOf X.P t) fun e n by_ => aSome (bnd lo 0) fun l => aSome (bnd hi len) fun h =>
    aRow (H.get id) ver fun zs sz => aIf (sz = n ∧ 0 ≤ l ∧ l ≤ h ∧ h ≤ len) (K (.sl id ver (off + l.toNat) (h - l).toNat) [id] []) := by
  apply propext; simp only [aSlice, aIf, aSome, aTr, aRow, Option.isNone_none, true_and]
  exact ⟨fun ⟨e, n, b, l, h, zs, h0, h1, h2, h3, h4, h5, h6, h7⟩ => ⟨e, n, b, h0, l, h2, h, h3, zs, n, h1, ⟨rfl, h4, h5, h6⟩, h7⟩, fun ⟨e, n, b, h0, l, h2, h, h3, zs, sz, h1, ⟨h8, h4, h5, h6⟩, h7⟩ => ⟨e, n, b, l, h, zs, h0, h8 ▸ h1, h2, h3, h4, h5, h6, h7⟩⟩

@[simp] theorem aSlice_sl (t : TypeId) (id ver off len : Nat) (lo hi : Option AV) : hSlice H X t (.sl id ver off len) lo hi none (K := ⟨K⟩) = aTr (slOf X.P t) fun e n by_ => aSome (bnd lo 0) fun l => aSome (bnd hi len) fun h =>
    aRow (H.get id) ver fun zs sz => aIf (sz = n ∧ 0 ≤ l ∧ l ≤ h ∧ h ≤ len) (K (.sl id ver (off + l.toNat) (h - l).toNat) [id] []) := aSlice_sl' ..
def hConv (X : Ctx) (lv : Bool) (s d : TypeId) (x : AV) (H : AH) [K : Hid (Post)] : Prop := aConv X lv s d x H K.out
@[simp ↓] theorem aConv_hide (X : Ctx) (lv : Bool) (s d : TypeId) (x : AV) (H : AH) (K : Post) : aConv X lv s d x H K = hConv X lv s d x H (K := ⟨K⟩) := (rfl)
def aKind (o : Option TypeDesc) (K : IntKind → Prop) : Prop := ∃ k, o = some (.int k) ∧ K k
def hKind (o : Option TypeDesc) [K : Hid (IntKind → Prop)] : Prop := aKind o K.out
@[simp ↓] theorem aKind_hide (o : Option TypeDesc) (K : IntKind → Prop) : aKind o K = hKind o (K := ⟨K⟩) := (rfl)
theorem aKind_some' (k : IntKind) (K : IntKind → Prop) : aKind (some (.int k)) K = K k := by simp [-aKind_hide, aKind]
@[simp] theorem aKind_some (k : IntKind) (K : IntKind → Prop) : hKind (some (.int k)) (K := ⟨K⟩) = K k := aKind_some' ..
theorem aConv_int' (b : Bool) (s d : TypeId) (k : IntKind) (n : Int) : aConv X b s d (.int k n) H K = aKind (X.P.underlying d) fun k => aIf ((X.P.underlying s).isSome = true) (K (.int k (k.wrap n)) [] []) := by
  apply propext; simp only [aConv, aKind, aIf]
@[simp] theorem aConv_int (b : Bool) (s d : TypeId) (k : IntKind) (n : Int) : hConv X b s d (.int k n) H (K := ⟨K⟩) = aKind (X.P.underlying d) fun k => aIf ((X.P.underlying s).isSome = true) (K (.int k (k.wrap n)) [] []) := aConv_int' ..
/-- A text's bytes. -/
theorem aConv_str_bytes (s d : TypeId) (t : List UInt8) {e : TypeId} {by_ : Nat} (hs : X.P.underlying s = some .string) (hd : slOf X.P d = some (e, 1, by_)) (he : X.P.underlying e = some (.int .u8)) (h : K (.fsl (t.map encB)) [] []) :
    aConv X false s d (.str t) H K := ⟨hs, .inr ⟨e, by_, hd, he, by simpa using h⟩⟩
attribute [simp] bytesOf_map
theorem aConv_bytes_fsl' (s d : TypeId) (xs : List AV) (b : Bool) : aConv X b s d (.fsl xs) H K = aTr (slOf X.P s) fun e n by_ => aIf (n = 1 ∧ X.P.underlying e = some (.int .u8) ∧ X.P.underlying d = some .string) (aSome (bytesOf xs) fun l => K (.str l) [] []) := by
  apply propext; simp only [aConv, aTr, aIf, aSome, aSrc]
  exact ⟨fun ⟨e, by_, h1, h2, h3, h4⟩ => ⟨e, 1, by_, h1, ⟨rfl, h2, h3⟩, h4⟩, fun ⟨e, n, by_, h1, ⟨h0, h2, h3⟩, h4⟩ => ⟨e, by_, h0 ▸ h1, h2, h3, h4⟩⟩
@[simp] theorem aConv_bytes_fsl (s d : TypeId) (xs : List AV) (b : Bool) : hConv X b s d (.fsl xs) H (K := ⟨K⟩) = aTr (slOf X.P s) fun e n by_ => aIf (n = 1 ∧ X.P.underlying e = some (.int .u8) ∧ X.P.underlying d = some .string) (aSome (bytesOf xs) fun l => K (.str l) [] []) := aConv_bytes_fsl' ..
theorem aConv_bytes_csl' (s d : TypeId) (xs : List AV) (b : Bool) : aConv X b s d (.csl xs) H K = aTr (slOf X.P s) fun e n by_ => aIf (n = 1 ∧ X.P.underlying e = some (.int .u8) ∧ X.P.underlying d = some .string) (aSome (bytesOf xs) fun l => K (.str l) [] []) := by
  apply propext; simp only [aConv, aTr, aIf, aSome, aSrc]
  exact ⟨fun ⟨e, by_, h1, h2, h3, h4⟩ => ⟨e, 1, by_, h1, ⟨rfl, h2, h3⟩, h4⟩, fun ⟨e, n, by_, h1, ⟨h0, h2, h3⟩, h4⟩ => ⟨e, by_, h0 ▸ h1, h2, h3, h4⟩⟩
@[simp] theorem aConv_bytes_csl (s d : TypeId) (xs : List AV) (b : Bool) : hConv X b s d (.csl xs) H (K := ⟨K⟩) = aTr (slOf X.P s) fun e n by_ => aIf (n = 1 ∧ X.P.underlying e = some (.int .u8) ∧ X.P.underlying d = some .string) (aSome (bytesOf xs) fun l => K (.str l) [] []) := aConv_bytes_csl' ..
theorem aConv_bytes_sl' (s d : TypeId) (id ver off len : Nat) (b : Bool) (hne : s ≠ d) : aConv X b s d (.sl id ver off len) H K = aTr (slOf X.P s) fun e n by_ => aIf (n = 1 ∧ X.P.underlying e = some (.int .u8) ∧ X.P.underlying d = some .string)
    (aRow (H.get id) ver fun zs sz => aIf (off + len ≤ zs.length) (aSome (bytesOf ((zs.drop off).take len)) fun l => K (.str l) [id] [])) := by
  apply propext; simp only [aConv, aTr, aIf, aSome, aSrc, aRow, ne_eq, hne, not_false_eq_true, true_and, false_and, or_false]
  exact ⟨fun ⟨e, by_, h1, h2, h3, zs, sz, h4⟩ => ⟨e, 1, by_, h1, ⟨rfl, h2, h3⟩, zs, sz, h4⟩, fun ⟨e, n, by_, h1, ⟨h0, h2, h3⟩, zs, sz, h4⟩ => ⟨e, by_, h0 ▸ h1, h2, h3, zs, sz, h4⟩⟩
@[simp] theorem aConv_bytes_sl (s d : TypeId) (id ver off len : Nat) (b : Bool) (hne : s ≠ d) : hConv X b s d (.sl id ver off len) H (K := ⟨K⟩) = aTr (slOf X.P s) fun e n by_ => aIf (n = 1 ∧ X.P.underlying e = some (.int .u8) ∧ X.P.underlying d = some .string)
    (aRow (H.get id) ver fun zs sz => aIf (off + len ≤ zs.length) (aSome (bytesOf ((zs.drop off).take len)) fun l => K (.str l) [id] [])) := aConv_bytes_sl' _ _ _ _ _ _ _ hne
theorem aConv_self' (s : TypeId) (id ver off len : Nat) (b : Bool) : aConv X b s s (.sl id ver off len) H K = aTr (slOf X.P s) fun e n by_ => aIf (n = 1 ∧ X.P.underlying e = some (.int .u8) ∧ 0 < len)
    (aRow (H.get id) ver fun zs sz => aIf (sz = 1) (K (.sl id ver off len) [id] [(id, .row zs 1 ver)])) := by
  apply propext; simp only [aConv, aTr, aIf, aRow, ne_eq, not_true_eq_false, false_and, true_and, false_or]
  exact ⟨fun ⟨hl, e, by_, zs, h1, h2, h3, h4⟩ => ⟨e, 1, by_, h1, ⟨rfl, h2, hl⟩, zs, 1, h3, rfl, h4⟩, fun ⟨e, n, by_, h1, ⟨h0, h2, hl⟩, zs, sz, h3, h5, h4⟩ => ⟨hl, e, by_, zs, h0 ▸ h1, h2, h5 ▸ h3, h4⟩⟩
@[simp] theorem aConv_self (s : TypeId) (id ver off len : Nat) (b : Bool) : hConv X b s s (.sl id ver off len) H (K := ⟨K⟩) = aTr (slOf X.P s) fun e n by_ => aIf (n = 1 ∧ X.P.underlying e = some (.int .u8) ∧ 0 < len)
    (aRow (H.get id) ver fun zs sz => aIf (sz = 1) (K (.sl id ver off len) [id] [(id, .row zs 1 ver)])) := aConv_self' ..
def hMake (X : Ctx) (lv : Bool) (t : TypeId) (l c : AV) (H : AH) [K : Hid (Post)] : Prop := aMake X lv t l c H K.out
@[simp ↓] theorem aMake_hide (X : Ctx) (lv : Bool) (t : TypeId) (l c : AV) (H : AH) (K : Post) : aMake X lv t l c H K = hMake X lv t l c H (K := ⟨K⟩) := (rfl)
def aMk (o : Option (TypeId × Nat × Nat × AV)) (K : Nat → Nat → AV → Prop) : Prop := ∃ e n b z, o = some (e, n, b, z) ∧ K n b z
def hMk (o : Option (TypeId × Nat × Nat × AV)) [K : Hid (Nat → Nat → AV → Prop)] : Prop := aMk o K.out
@[simp ↓] theorem aMk_hide (o : Option (TypeId × Nat × Nat × AV)) (K : Nat → Nat → AV → Prop) : aMk o K = hMk o (K := ⟨K⟩) := (rfl)
theorem aMk_some' (e : TypeId) (n b : Nat) (z : AV) (K : Nat → Nat → AV → Prop) : aMk (some (e, n, b, z)) K = K n b z := by
  apply propext; simp only [aMk]
  exact ⟨fun ⟨a, b, c, d, h, hK⟩ => by cases h; exact hK, fun h => ⟨_, _, _, _, rfl, h⟩⟩
@[simp] theorem aMk_some (e : TypeId) (n b : Nat) (z : AV) (K : Nat → Nat → AV → Prop) : hMk (some (e, n, b, z)) (K := ⟨K⟩) = K n b z := aMk_some' ..
theorem aMake_f' (t : TypeId) (k k' : IntKind) (x c : Int) : aMake X false t (.int k x) (.int k' c) H K = aMk (mkOf X.P t) fun n by_ z => aIf (z.good = true ∧ 0 ≤ x ∧ x ≤ c ∧ (by_ : Int) * c ≤ 281474976710656 ∧ c ≤ 9223372036854775807) (K (.fsl (List.replicate x.toNat z)) [] []) := by
  apply propext; simp only [aMake, aMk, aIf, and_assoc, Bool.false_eq_true, if_false]
@[simp] theorem aMake_f (t : TypeId) (k k' : IntKind) (x c : Int) : hMake X false t (.int k x) (.int k' c) H (K := ⟨K⟩) = aMk (mkOf X.P t) fun n by_ z => aIf (z.good = true ∧ 0 ≤ x ∧ x ≤ c ∧ (by_ : Int) * c ≤ 281474976710656 ∧ c ≤ 9223372036854775807) (K (.fsl (List.replicate x.toNat z)) [] []) := aMake_f' ..
theorem aMake_t' (t : TypeId) (k k' : IntKind) (x c : Int) : aMake X true t (.int k x) (.int k' c) H K = aMk (mkOf X.P t) fun n by_ z => aIf (z.good = true ∧ 0 ≤ x ∧ x ≤ c ∧ (by_ : Int) * c ≤ 281474976710656 ∧ c ≤ 9223372036854775807) (K (.sl H.nx 0 0 x.toNat) [H.nx] [(H.nx, .row (List.replicate x.toNat z) n 0)]) := by
  apply propext; simp only [aMake, aMk, aIf, and_assoc, if_true, AH.fresh, true_and]

@[simp] theorem aMake_t (t : TypeId) (k k' : IntKind) (x c : Int) : hMake X true t (.int k x) (.int k' c) H (K := ⟨K⟩) = aMk (mkOf X.P t) fun n by_ z => aIf (z.good = true ∧ 0 ≤ x ∧ x ≤ c ∧ (by_ : Int) * c ≤ 281474976710656 ∧ c ≤ 9223372036854775807) (K (.sl H.nx 0 0 x.toNat) [H.nx] [(H.nx, .row (List.replicate x.toNat z) n 0)]) := aMake_t' ..
/-! ### Calls -/
def hFn (X : Ctx) (f : AV) (args : List AV) (H : AH) [K : Hid (Post)] : Prop := aFn X f args H K.out
@[simp ↓] theorem aFn_hide (X : Ctx) (f : AV) (args : List AV) (H : AH) (K : Post) : aFn X f args H K = hFn X f args H (K := ⟨K⟩) := (rfl)
def hCall (X : Ctx) (f : FuncId) (args : List AV) (H : AH) [K : Hid (Post)] : Prop := aCall X f args H K.out
@[simp ↓] theorem aCall_hide (X : Ctx) (f : FuncId) (args : List AV) (H : AH) (K : Post) : aCall X f args H K = hCall X f args H (K := ⟨K⟩) := (rfl)
theorem aFn_func' (g : FuncId) (fs cs args : List AV) : aFn X (.func (.func g) fs cs) args H K = aCall X g (fs ++ args ++ cs) H K := (rfl)
@[simp] theorem aFn_func (g : FuncId) (fs cs args : List AV) : hFn X (.func (.func g) fs cs) args H (K := ⟨K⟩) = aCall X g (fs ++ args ++ cs) H K := aFn_func' ..
end
end Go.Proofs.YtndoembhbfiokaaGreatDoor.Am
/- Numbers, and what closes a function. -/
set_option linter.unusedVariables false
set_option linter.unusedSimpArgs false
namespace Go.Proofs.YtndoembhbfiokaaGreatDoor.Am
open Go.RowKit

theorem wrap64 {n : Int} (h1 : -9223372036854775808 ≤ n) (h2 : n ≤ 9223372036854775807) : IntKind.i64.wrap n = n := by
  simp [IntKind.wrap, IntKind.bits, IntKind.signed]
  omega
theorem wrapu8 {n : Int} (h1 : 0 ≤ n) (h2 : n ≤ 255) : IntKind.u8.wrap n = n := by
  simp [IntKind.wrap, IntKind.bits, IntKind.signed]
  omega
theorem wrapu64 {n : Int} (h1 : 0 ≤ n) (h2 : n ≤ 18446744073709551615) : IntKind.u64.wrap n = n := by
  simp [IntKind.wrap, IntKind.bits, IntKind.signed]
  omega
theorem wrapu8_mod (n : Int) : IntKind.u8.wrap n = n % 256 := by
  simp [IntKind.wrap, IntKind.bits, IntKind.signed]

/-- A row of the function's own is answered: it is written no more. -/
theorem Leave.sl {X : Ctx} {H0 H' : AH} {Q : AV → AH → Prop} {id ver sz len : Nat} {zs : List AV} (hH : H'.get id = .row zs sz ver) (hl : len = zs.length) (h : Leave X H0 (.fsl zs) (H'.put id .dead) Q) : Leave X H0 (.sl id ver 0 len) H' Q := by
  refine Leave.frz hH (.sl 0 len (by omega)) ?_
  subst hl
  simpa using h
theorem put_keeps {H0 H : AH} {id : Nat} {s : Slot} (hid : H0.get id = .free) (h : ∀ i, H0.get i ≠ .free → H.get i = H0.get i) : ∀ i, H0.get i ≠ .free → (H.put id s).get i = H0.get i := fun i hi => by
  have hne : i ≠ id := by rintro rfl; exact hi hid
  rw [AH.put_ne _ _ hne, h i hi]
theorem keeps_refl (H : AH) : ∀ i, H.get i ≠ .free → H.get i = H.get i := fun _ _ => rfl
theorem AH.free_add (H : AH) (k : Nat) : H.get (H.nx + k) = .free := H.wf _ (Nat.le_add_right _ _)

/-! ### Data -/
theorem data_map {A : Type} (f : A → AV) (hf : ∀ a, (f a).Data) (h1 : ∀ a, ∀ c ∈ (f a).cells, AV.Data c) (l : List A) : ∀ x ∈ l.map f, ∀ c ∈ x.cells, AV.Data c := by
  intro x hx c hc
  obtain ⟨a, _, rfl⟩ := List.mem_map.1 hx
  exact h1 a c hc
@[simp] theorem data_any : AV.Data .any := .any
@[simp] theorem data_bool (b : Bool) : AV.Data (.bool b) := .bool b
@[simp] theorem data_int (k : IntKind) (n : Int) : AV.Data (.int k n) := .int k n
@[simp] theorem data_str (l : List UInt8) : AV.Data (.str l) := .str l
@[simp] theorem data_nilp : AV.Data .nilp := .nilp
@[simp] theorem data_nili : AV.Data .nili := .nili
@[simp] theorem data_nilf : AV.Data .nilf := .nilf
@[simp] theorem data_opq (k : Nat) : AV.Data (.opq k) := .opq k
@[simp] theorem data_gptr (k : Nat) : AV.Data (.gptr k) := .gptr k
@[simp] theorem data_iface (t : TypeId) (v : AV) : AV.Data (.iface t v) ↔ AV.Data v := ⟨fun h => by cases h; assumption, fun h => .iface t v h⟩
@[simp] theorem data_agg (cs : List AV) : AV.Data (.agg cs) ↔ ∀ x ∈ cs, AV.Data x := ⟨fun h => by cases h; assumption, fun h => .agg cs h⟩
@[simp] theorem data_tup (cs : List AV) : AV.Data (.tup cs) ↔ ∀ x ∈ cs, AV.Data x := ⟨fun h => by cases h; assumption, fun h => .tup cs h⟩
@[simp] theorem data_fsl (xs : List AV) : AV.Data (.fsl xs) ↔ ∀ x ∈ xs, ∀ c ∈ x.cells, AV.Data c := ⟨fun h => by cases h; assumption, fun h => .fsl xs h⟩
@[simp] theorem data_csl (xs : List AV) : AV.Data (.csl xs) ↔ ∀ x ∈ xs, ∀ c ∈ x.cells, AV.Data c := ⟨fun h => by cases h; assumption, fun h => .csl xs h⟩
@[simp] theorem data_eptr (xs : List AV) (i off : Nat) : AV.Data (.eptr xs i off) ↔ ∀ x ∈ xs, ∀ c ∈ x.cells, AV.Data c := ⟨fun h => by cases h; assumption, fun h => .eptr xs i off h⟩
@[simp] theorem encB_cells (b : UInt8) : (encB b).cells = [encB b] := rfl
@[simp] theorem encB_one (b : UInt8) : (encB b).one = true := rfl
@[simp] theorem encB_good (b : UInt8) : (encB b).good = true := rfl
@[simp] theorem encB_isAgg (b : UInt8) : (encB b).isAgg = false := rfl
@[simp] theorem encB_splice (b : UInt8) (off : Nat) (x : AV) : (encB b).splice off x = x := rfl
@[simp] theorem encB_data (b : UInt8) : (encB b).Data := .int _ _
@[simp] theorem Le_refl (v : AV) : Le v v := Le.refl v
@[simp] theorem Le_any (v : AV) : Le v .any := Le.any v
@[simp] theorem Le_csl (xs : List AV) : Le (.csl xs) (.fsl xs) := Le.csl xs
end Go.Proofs.YtndoembhbfiokaaGreatDoor.Am
/- Rows that are told anew: nothing yet becomes a row, contents are told less exactly. -/
set_option linter.unusedVariables false
set_option linter.unusedSimpArgs false
namespace Go.Proofs.YtndoembhbfiokaaGreatDoor.Am
open Go.RowKit
section
variable {X : Ctx}

/-- Less of a value, in a heap. -/
def LeH (H : AH) (v v' : AV) : Prop := ∀ μ ρ w c, VRel μ ρ (Live μ H) w v c → VRel μ ρ (Live μ H) w v' c
theorem LeH.refl (H : AH) (v : AV) : LeH H v v := fun _ _ _ _ h => h
theorem LeH.le {H : AH} {v v' : AV} (h : Le v v') : LeH H v v' := fun μ ρ w c hc => h _ _ _ _ _ hc
theorem LeH.mat {H : AH} {id : Nat} (h : H.get id ≠ .free) : LeH H (.csl []) (.sl id 0 0 0) := fun μ ρ w c hc => by
  cases hc with
  | csl0 a => exact .sl0 id 0 0 a h
  | csl _ b o sz f => exact .sl0 id 0 0 _ h

theorem WRel.slotLe {μ : Mu} {ρ : Nat → Value} {w0 w : World} {H : AH} (hW : WRel X μ ρ w0 H w) {id ver sz : Nat} {xs xs' : List AV} (hH : H.get id = .row xs sz ver) (hl : xs'.length = xs.length)
    (hx : ∀ (j : Nat) (x x' : AV), xs[j]? = some x → xs'[j]? = some x' → x'.cells.length = x.cells.length ∧ ∀ (q : Nat) (c c' : AV), x.cells[q]? = some c → x'.cells[q]? = some c' → LeH H c c') :
    Ext μ (Live μ H) w μ (Live μ (H.put id (.row xs' sz ver))) w ∧ WRel X μ ρ w0 (H.put id (.row xs' sz ver)) w := by
  have hblk : ∀ i, blk μ i ((H.put id (.row xs' sz ver)).get i) = blk μ i (H.get i) := fun i => by
    by_cases hi : i = id
    · subst hi; rw [AH.put_same, hH]; rfl
    · rw [AH.put_ne _ _ hi]
  have hx' : Ext μ (Live μ H) w μ (Live μ (H.put id (.row xs' sz ver))) w :=
    ⟨fun _ _ _ h => h, Nat.le_refl _, fun _ _ _ => rfl, fun _ _ => rfl, fun c ⟨i, hi⟩ => .inl ⟨i, by rw [← hblk i]; exact hi⟩, put_ids (by simp)⟩
  have hs := hW.slot id
  rw [hH] at hs
  refine ⟨hx', hW.put id _ hx' hW.below (fun _ _ _ => rfl) (fun _ _ _ _ => rfl) ⟨hs.1, ?_⟩ (fun c hc i hi hc' => ?_)⟩
  · rcases hs.2 with ⟨rfl, h⟩ | ⟨b, C, e, fz, h1, h2, h3, h4, h5, h6, h7⟩
    · exact .inl ⟨List.eq_nil_of_length_eq_zero hl, h⟩
    · refine .inr ⟨b, C, e, fz, h1, h2, h3, h4, by rw [hl]; exact h5, fun j hj => ?_, fun j hj q hq => ?_⟩
      · rw [(hx j _ _ (List.getElem?_eq_getElem (by omega)) (List.getElem?_eq_getElem hj)).1]; exact h6 j (by omega)
      · have hxj := hx j _ _ (List.getElem?_eq_getElem (by omega)) (List.getElem?_eq_getElem hj)
        obtain ⟨c, hc, hr⟩ := h7 j (by omega) q (by rw [← hxj.1]; exact hq)
        exact ⟨c, hc, (hxj.2 q _ _ (List.getElem?_eq_getElem (by rw [← hxj.1]; exact hq)) (List.getElem?_eq_getElem hq) μ ρ w c hr).mono hx'⟩
  · have : blk μ id (H.get id) = some c := by rw [hH]; exact hc
    exact hi (hW.inj i id c hc' this)

theorem Leave.mat0 {H0 H' : AH} {v : AV} {Q : AV → AH → Prop} (sz : Nat) (h : Leave X H0 v (H'.put H'.nx (.row [] sz 0)) Q) : Leave X H0 v H' Q :=
  fun μ0 ρ w0 wa μ w c hW0 hx hW hv => by
    have hs := hW.slot H'.nx
    rw [AH.fresh] at hs
    obtain ⟨hx', hW'⟩ := voidRow hW (id := H'.nx) (ver := 0) (sz := sz) (fun v _ => hs v) (by simp [blk])
    exact h μ0 ρ w0 wa μ w c hW0 (hx.trans hx') hW' (hv.mono hx')
theorem Leave.slot {H0 H' : AH} {v : AV} {Q : AV → AH → Prop} {id ver sz : Nat} {xs : List AV} (xs' : List AV) (hH : H'.get id = .row xs sz ver) (hl : xs'.length = xs.length)
    (hx : ∀ (j : Nat) (x x' : AV), xs[j]? = some x → xs'[j]? = some x' → x'.cells.length = x.cells.length ∧ ∀ (q : Nat) (c c' : AV), x.cells[q]? = some c → x'.cells[q]? = some c' → LeH H' c c')
    (h : Leave X H0 v (H'.put id (.row xs' sz ver)) Q) : Leave X H0 v H' Q :=
  fun μ0 ρ w0 wa μ w c hW0 hx0 hW hv => by
    obtain ⟨hx', hW'⟩ := hW.slotLe hH hl hx
    exact h μ0 ρ w0 wa μ w c hW0 (hx0.trans hx') hW' (hv.mono hx')
theorem Wk.slot {N : Nat} {r : Regs} {H : AH} {id ver sz : Nat} {xs : List AV} (xs' : List AV) (hH : H.get id = .row xs sz ver) (hl : xs'.length = xs.length)
    (hx : ∀ (j : Nat) (x x' : AV), xs[j]? = some x → xs'[j]? = some x' → x'.cells.length = x.cells.length ∧ ∀ (q : Nat) (c c' : AV), x.cells[q]? = some c → x'.cells[q]? = some c' → LeH H c c') :
    Wk X N r H r (H.put id (.row xs' sz ver)) := fun μ ρ w0 a w hR => by
  obtain ⟨hx', hW'⟩ := hR.world.slotLe hH hl hx
  exact ⟨μ, hx', hR.tsize, hR.defers, fun t => (hR.regs t).mono hx', hW'⟩

/-- In a struct that is the only element: one of its cells. -/
theorem cell_le {H : AH} {cs : List AV} (k : Nat) {c c' : AV} (hk : cs[k]? = some c) (hc : LeH H c c') :
    ∀ (j : Nat) (x x' : AV), [AV.agg cs][j]? = some x → [AV.agg (cs.set k c')][j]? = some x' → x'.cells.length = x.cells.length ∧ ∀ (q : Nat) (d d' : AV), x.cells[q]? = some d → x'.cells[q]? = some d' → LeH H d d' := by
  intro j x x' h1 h2
  cases j with
  | succ j => simp at h1
  | zero =>
    simp only [List.getElem?_cons_zero, Option.some.injEq] at h1 h2
    subst h1 h2
    refine ⟨by simp, fun q d d' hd hd' => ?_⟩
    simp only [cells_agg] at hd hd'
    rw [List.getElem?_set] at hd'
    split at hd'
    · rename_i hkq
      subst hkq
      rw [hk] at hd
      split at hd'
      · rw [← Option.some.inj hd, ← Option.some.inj hd']; exact hc
      · cases hd'
    · rw [hd] at hd'
      rw [← Option.some.inj hd']; exact LeH.refl _ _

theorem AH.ne_free {H : AH} {i : Nat} {xs : List AV} {sz ver : Nat} (h : H.get i = .row xs sz ver) : H.get i ≠ .free := by rw [h]; simp
theorem AH.lt_nx {H : AH} {i : Nat} (h : H.get i ≠ .free) : i < H.nx := Nat.lt_of_not_le fun hle => h (H.wf i hle)
theorem AH.put3 (K : AH) {a b : Nat} (h : a ≠ b) (x x' y : Slot) : ((K.put a x).put b y).put a x' = (K.put a x').put b y := by
  refine AH.ext' ?_ fun i => ?_
  · simp only [AH.nx_put]
    by_cases h1 : a < K.nx <;> simp only [h1, if_true, if_false]
    · by_cases h2 : b < K.nx <;> simp only [h2, if_true, if_false]
      · simp [h1]
      · rw [if_pos (by omega)]
    · by_cases h2 : b < a + 1 <;> simp only [h2, if_true, if_false]
      · rw [if_pos (by omega)]
      · rw [if_pos (by omega)]
  · simp only [AH.get_put]
    by_cases h1 : i = a
    · subst h1; simp [h]
    · simp [h1]
theorem AH.put_self {H : AH} {i : Nat} {s : Slot} (h : H.get i = s) (hs : s ≠ .free) : H.put i s = H := by
  have hlt := AH.lt_nx (H := H) (i := i) (by rw [h]; exact hs)
  refine AH.ext' (by simp [hlt]) fun j => ?_
  rw [AH.get_put]
  split
  · rename_i e; subst e; exact h.symm
  · rfl
end
end Go.Proofs.YtndoembhbfiokaaGreatDoor.Am
