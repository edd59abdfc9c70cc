/- The logic and the contracts that the laws stand on, part 10. -/
import Derived.Test.YtndoembhbfiokaaGreatDoorAai
import Derived.WalkSpells
/- Is a slice nil? Data doesn't tell; both ways are walked. -/
set_option linter.unusedVariables false
set_option linter.unusedSimpArgs false
namespace Go.Proofs.YtndoembhbfiokaaGreatDoor.Am
open Go.RowKit
@[simp low] theorem hNext_gen {X : Ctx} {N : Nat} {ops : Array Oper} {lv : List Tmp} {r : Regs} {H : AH} (os : List Oper) (d : Tmp) (v : AV) (wr : List (Nat × Slot)) (K : Regs → AH → Prop) (hd : d < N) :
    hNext X N (ops := ⟨ops⟩) lv (os := ⟨os⟩) (r := ⟨r⟩) (some d) H v wr (K := ⟨K⟩) = hGo X N (ops := ⟨ops⟩) lv (os := ⟨os⟩) (r := ⟨(d, v) :: r⟩) (H.upd wr) (K := ⟨K⟩) := by
  simp only [hNext, Regs.put, hd, if_true, hGo]
@[simp low] theorem hNext_gen0 {X : Ctx} {N : Nat} {ops : Array Oper} {lv : List Tmp} {r : Regs} {H : AH} (os : List Oper) (v : AV) (wr : List (Nat × Slot)) (K : Regs → AH → Prop) :
    hNext X N (ops := ⟨ops⟩) lv (os := ⟨os⟩) (r := ⟨r⟩) none H v wr (K := ⟨K⟩) = hGo X N (ops := ⟨ops⟩) lv (os := ⟨os⟩) (r := ⟨r⟩) (H.upd wr) (K := ⟨K⟩) := rfl
@[simp] theorem nat_ne2 (n : Nat) : (n = n + 1 + 1) = False := by simp; omega
@[simp] theorem nat_ne2' (n : Nat) : (n + 1 + 1 = n) = False := by simp; omega
@[simp] theorem nat_ne3 (n : Nat) : (n = n + 1 + 1 + 1) = False := by simp; omega
@[simp] theorem nat_ne3' (n : Nat) : (n + 1 + 1 + 1 = n) = False := by simp; omega
@[simp] theorem nat_ne4 (n : Nat) : (n = n + 1 + 1 + 1 + 1) = False := by simp; omega
@[simp] theorem nat_ne4' (n : Nat) : (n + 1 + 1 + 1 + 1 = n) = False := by simp; omega
@[simp] theorem range_lit2 : List.range 2 = [0, 1] := (rfl)
@[simp] theorem range_lit3 : List.range 3 = [0, 1, 2] := (rfl)
@[simp] theorem range_lit4 : List.range 4 = [0, 1, 2, 3] := (rfl)
@[simp] theorem range_lit5 : List.range 5 = [0, 1, 2, 3, 4] := (rfl)
@[simp] theorem range_lit6 : List.range 6 = [0, 1, 2, 3, 4, 5] := (rfl)
@[simp] theorem range_lit7 : List.range 7 = [0, 1, 2, 3, 4, 5, 6] := (rfl)
@[simp] theorem range_lit8 : List.range 8 = [0, 1, 2, 3, 4, 5, 6, 7] := (rfl)
@[simp] theorem range_lit9 : List.range 9 = [0, 1, 2, 3, 4, 5, 6, 7, 8] := (rfl)
@[simp] theorem range_lit10 : List.range 10 = [0, 1, 2, 3, 4, 5, 6, 7, 8, 9] := (rfl)
@[simp] theorem range_lit11 : List.range 11 = [0, 1, 2, 3, 4, 5, 6, 7, 8, 9, 10] := (rfl)
@[simp] theorem range_lit12 : List.range 12 = [0, 1, 2, 3, 4, 5, 6, 7, 8, 9, 10, 11] := (rfl)
@[simp] theorem range_lit13 : List.range 13 = [0, 1, 2, 3, 4, 5, 6, 7, 8, 9, 10, 11, 12] := (rfl)
@[simp] theorem range_lit14 : List.range 14 = [0, 1, 2, 3, 4, 5, 6, 7, 8, 9, 10, 11, 12, 13] := (rfl)
@[simp] theorem range_lit15 : List.range 15 = [0, 1, 2, 3, 4, 5, 6, 7, 8, 9, 10, 11, 12, 13, 14] := (rfl)
@[simp] theorem range_lit16 : List.range 16 = [0, 1, 2, 3, 4, 5, 6, 7, 8, 9, 10, 11, 12, 13, 14, 15] := (rfl)
theorem range_two : True := trivial
theorem chkH_reads {ops : Array Oper} {T : List (Nat × List Nat × List Nat)} (h : ∀ x ∈ T, x.2.2 = []) : chkH ops T := by
  refine List.Pairwise.imp_of_mem (R := fun _ _ => True) (fun {x y} hx hy _ => .inr ⟨by simp [h y hy], by simp [h x hx]⟩) ?_
  exact List.pairwise_of_forall (fun _ _ => trivial)
theorem chkH_two {ops : Array Oper} {x y : Nat × List Nat × List Nat} (h : reach ops 4 x.1 y.1 = true) : chkH ops [x, y] := by
  simp only [chkH, List.pairwise_cons, List.mem_singleton, List.not_mem_nil, List.Pairwise.nil, and_true]
  exact ⟨fun a ha => .inl (ha ▸ h), fun a ha => ha.elim⟩
theorem aGuard_decf {p : Prop} [Decidable p] {A B : Prop} (h1 : p → B) (h2 : ¬ p → A) : aGuard (.bool (decide p)) false A B :=
  .inl ⟨_, rfl, fun h => h2 (by simpa using h), fun h => h1 (by simpa using h)⟩
section
variable {X : Ctx} {N : Nat} {lv : List Tmp} {Q : AX → Regs → AH → Prop}

/-- A slice of some length. -/
def AV.slLen : AV → Option Nat
  | .fsl xs => some xs.length
  | .csl xs => some xs.length
  | .sl _ _ _ n => some n
  | _ => none
theorem isSlice {μ : Mu} {ρ : Nat → Value} {L : LV} {w : World} {v : AV} {n : Nat} (hs : v.slLen = some n) {c : Value} (h : VRel μ ρ L w v c) : ∃ a cap, c = .slice a n cap ∧ (n ≠ 0 → a ≠ none) := by
  cases h with
  | fsl0 a cap => simp [AV.slLen] at hs; subst hs; exact ⟨a, cap, rfl, fun h => absurd rfl h⟩
  | fsl xs b o sz cap f => simp [AV.slLen] at hs; subst hs; exact ⟨_, cap, rfl, fun _ => by simp⟩
  | csl0 a => simp [AV.slLen] at hs; subst hs; exact ⟨a, 0, rfl, fun h => absurd rfl h⟩
  | csl xs b o sz f => simp [AV.slLen] at hs; subst hs; exact ⟨_, _, rfl, fun _ => by simp⟩
  | sl0 id ver off a hU => simp [AV.slLen] at hs; subst hs; exact ⟨a, 0, rfl, fun h => absurd rfl h⟩
  | sl id ver off len b sz cap => simp [AV.slLen] at hs; subst hs; exact ⟨_, _, rfl, fun _ => by simp⟩
  | _ => simp [AV.slLen] at hs

/-- 'x == nil' for a slice that is told as data. -/
theorem AWp.isNil {id : Nat} {t e y d1 d2 : Nat} {x : Nat} {T1 T2 : TypeId} {p1 p2 : String} {a1 a2 : Array Edge} {rest : Code} {r : Regs} {H : AH} {n : Nat} (v : AV) (hx : r.get x = v) (hs : v.slLen = some n) (ht : X.P.underlying t = some (.slice e)) (h1 : d1 < N) (h2 : d2 < N)
    (h : ∀ b, (n ≠ 0 → b = false) → AWp X N rest ((d2, .bool b) :: (d1, v) :: r) H Q) :
    AWp X N (.seq (.region id #[⟨some d1, .move (.tmp x), T1, p1, a1, none⟩, ⟨some d2, .binOp .eql t (.tmp d1) (.const (.slice none 0 0)) y, T2, p2, a2, none⟩] false) rest) r H Q := by
  intro μ ρ w0 a w hR
  have hv := hR.ev (.tmp x)
  simp only [Regs.ev, hx] at hv
  obtain ⟨ad, cap, hc, hne⟩ := isSlice hs hv
  have hR1 := hR.put (d := some d1) (Ext.refl _ _ _) hR.world hv
  have hv1 := hR1.ev (.tmp d1)
  have hc1 : (a.put (some d1) (a.eval (.tmp x))).eval (.tmp d1) = .slice ad n cap := by
    rw [← hc]
    have := hR.tsize
    simp [Act.eval, Act.put, this, h1]
  have hb : ((execOp (a.put (some d1) (a.eval (.tmp x))).eval ⟨some d2, .binOp .eql t (.tmp d1) (.const (.slice none 0 0)) y, T2, p2, a2, none⟩).run X.P w) = .ok (.value (.bool ad.isNone)) w := by
    simp only [execOp, hc1]
    have e1 : (a.put (some d1) (a.eval (.tmp x))).eval (.const (.slice none 0 0)) = .slice none 0 0 := rfl
    simp only [e1]
    have e2 : (eqGuard .eql t (.tmp d1) (.const (.slice none 0 0)) (.slice ad n cap) (.slice none 0 0)).run X.P w = .ok () w := by simp [eqGuard]
    have e3 : (binOp .eql t (.slice ad n cap) (.slice none 0 0)).run X.P w = .ok (.bool ad.isNone) w := by
      simp only [binOp]
      simp [Op.equal, Op.maxDepth, Lib.run_equalIn_slice_nil w 9999 t e ad n cap 0 0 ht]
    simp [e2, e3]
  have hR2 := hR1.put (d := some d2) (Ext.refl _ _ _) hR1.world (.bool ad.isNone)
  refine wp_seq (wp_region ?_)
  show wpOps X.P _ _ [0, 1] a w
  simp only [wpOps, List.getElem?_toArray, List.getElem?_cons_zero, List.getElem?_cons_succ, Region.wanted, if_true]
  refine .inl ?_
  show Oper.upon _ _ _ _ _ _
  have e0 : (execOp a.eval ⟨some d1, .move (.tmp x), T1, p1, a1, none⟩).run X.P w = .ok (.value (a.eval (.tmp x))) w := by simp [execOp]
  rw [e0]
  refine .inl ?_
  show Oper.upon _ _ _ _ _ _
  rw [hb]
  have hreg : Regs.put N (Regs.put N r (some d1) v) (some d2) (.bool ad.isNone) = (d2, .bool ad.isNone) :: (d1, v) :: r := by simp [Regs.put, h1, h2]
  rw [hreg] at hR2
  exact h ad.isNone (fun hx => by cases ad with | none => exact absurd rfl (hne hx) | some a => rfl) μ ρ w0 _ w hR2
end
end Go.Proofs.YtndoembhbfiokaaGreatDoor.Am
