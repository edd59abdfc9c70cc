/- The logic and the contracts that the laws stand on, part 4. -/
import Derived.Test.YtndoembhbfiokaaGreatDoorAac
import Derived.Laws.Build
/- Operations that leave the world as it is. -/
set_option linter.unusedVariables false
set_option linter.unusedSimpArgs false
namespace Go.Proofs.YtndoembhbfiokaaGreatDoor.Am
open Go.RowKit

section
variable {X : Ctx} {N : Nat} {o : Oper} {r : Regs} {H : AH} {K : Post}

/-- For operations whose answer hangs on the operands alone. -/
theorem local_pure {v : AV} (h : ∀ r' : Regs, (∀ x ∈ o.op.operands.toList, r'.ev x = r.ev x) → ∀ (H' : AH) μ ρ w0 a w, Rel X N μ ρ w0 r' H' a w →
    ∃ c, (execOp a.eval o).run X.P w = .ok (.value c) w ∧ VRel μ ρ (Live μ H') w v c) : Local X N o r H v [] [] :=
  ⟨by simp, fun r' H' hr' _ => SemOp.same fun μ ρ w0 a w hR => h r' hr' H' μ ρ w0 a w hR⟩

theorem aMove_sound {x : Operand} (ho : o.op = .move x ∨ o.op = .assign x) (h : K (r.ev x) [] []) : ∃ v rd wr, K v rd wr ∧ Local X N o r H v rd wr := by
  refine ⟨_, _, _, h, local_pure fun r' hr' H' μ ρ w0 a w hR => ?_⟩
  have hv := hR.ev x
  rcases ho with ho | ho
  all_goals
    rw [hr' x (by simp [ho, Op.operands])] at hv
    exact ⟨a.eval x, by simp [execOp, ho], hv⟩

def aPick (c a b : AV) (K : Post) : Prop :=
  match c with
  | .bool c => K (if c then a else b) [] []
  | _ => False
theorem aPick_sound {c x y : Operand} (ho : o.op = .pick c x y) (h : aPick (r.ev c) (r.ev x) (r.ev y) K) : ∃ v rd wr, K v rd wr ∧ Local X N o r H v rd wr := by
  unfold aPick at h
  split at h
  · rename_i b hc
    refine ⟨_, _, _, h, local_pure fun r' hr' H' μ ρ w0 a w hR => ?_⟩
    have hv := hR.ev c
    have hx := hR.ev x
    have hy := hR.ev y
    rw [hr' _ (by simp [ho, Op.operands])] at hv hx hy
    rw [hc] at hv
    generalize hcv : a.eval c = cv at hv
    cases hv
    refine ⟨if b then a.eval x else a.eval y, by cases b <;> simp [execOp, ho, hcv, asBool], ?_⟩
    cases b
    · exact hy
    · exact hx
  · exact h.elim

def AV.notNil : AV → Bool
  | .ptr .. | .eptr .. | .gptr _ | .iface .. => true
  | _ => false
theorem aNil_sound {x : Operand} (ho : o.op = .nilCheck x) (h : (r.ev x).notNil = true ∧ K (r.ev x) [] []) : ∃ v rd wr, K v rd wr ∧ Local X N o r H v rd wr := by
  refine ⟨_, _, _, h.2, local_pure fun r' hr' H' μ ρ w0 a w hR => ?_⟩
  have hv := hR.ev x
  rw [hr' x (by simp [ho, Op.operands])] at hv
  have hn := h.1
  generalize hrx : r.ev x = v at hv hn
  generalize hcv : a.eval x = c at hv
  have key : (execOp a.eval o).run X.P w = .ok (.value c) w := by
    cases hv <;> simp [AV.notNil] at hn <;> simp [execOp, ho, hcv]
  exact ⟨c, key, hv⟩

def aUn (op : UnOp) (x : AV) (K : Post) : Prop :=
  match op, x with
  | .not, .bool b => K (.bool !b) [] []
  | .neg, .int k n => K (.int k (k.wrap (0 - n))) [] []
  | .xor, .int k n => K (.int k (k.wrap (BitVec.ofInt k.bits (if k.signed then -1 else k.max) ^^^ BitVec.ofInt k.bits n).toNat)) [] []
  | _, _ => False
theorem aUn_sound {op : UnOp} {t : TypeId} {x : Operand} (ho : o.op = .unOp op t x) (h : aUn op (r.ev x) K) : ∃ v rd wr, K v rd wr ∧ Local X N o r H v rd wr := by
  unfold aUn at h
  split at h
  · rename_i b hx
    refine ⟨_, _, _, h, local_pure fun r' hr' H' μ ρ w0 a w hR => ?_⟩
    have hv := hR.ev x
    rw [hr' x (by simp [ho, Op.operands]), hx] at hv
    generalize hcv : a.eval x = cv at hv
    cases hv
    exact ⟨.bool !b, by simp [execOp, ho, hcv, Op.unary], .bool _⟩
  · rename_i k n hx
    refine ⟨_, _, _, h, local_pure fun r' hr' H' μ ρ w0 a w hR => ?_⟩
    have hv := hR.ev x
    rw [hr' x (by simp [ho, Op.operands]), hx] at hv
    generalize hcv : a.eval x = cv at hv
    cases hv
    exact ⟨.int k (k.wrap (0 - n)), by simp only [execOp, ho, hcv, Op.unary, Op.intArith]; rfl, .int _ _⟩
  · rename_i k n hx
    refine ⟨_, _, _, h, local_pure fun r' hr' H' μ ρ w0 a w hR => ?_⟩
    have hv := hR.ev x
    rw [hr' x (by simp [ho, Op.operands]), hx] at hv
    generalize hcv : a.eval x = cv at hv
    cases hv
    exact ⟨.int k (k.wrap (BitVec.ofInt k.bits (if k.signed then -1 else k.max) ^^^ BitVec.ofInt k.bits n).toNat), by simp only [execOp, ho, hcv, Op.unary, Op.intBits]; rfl, .int _ _⟩
  · exact h.elim

/-! ### Numbers -/
def intOp (op : BinOp) (k : IntKind) (x y : Int) : Option AV :=
  match op with
  | .add => some (.int k (k.wrap (x + y)))
  | .sub => some (.int k (k.wrap (x - y)))
  | .mul => some (.int k (k.wrap (x * y)))
  | .quo => some (.int k (k.wrap (x.tdiv y)))
  | .rem => some (.int k (x.tmod y))
  | .and => some (.int k (k.wrap (BitVec.ofInt k.bits x &&& BitVec.ofInt k.bits y).toNat))
  | .or => some (.int k (k.wrap (BitVec.ofInt k.bits x ||| BitVec.ofInt k.bits y).toNat))
  | .xor => some (.int k (k.wrap (BitVec.ofInt k.bits x ^^^ BitVec.ofInt k.bits y).toNat))
  | .andNot => some (.int k (k.wrap (BitVec.ofInt k.bits x &&& ~~~ BitVec.ofInt k.bits y).toNat))
  | .eql => some (.bool (x == y))
  | .neq => some (.bool (x != y))
  | .lss => some (.bool (decide (x < y)))
  | .leq => some (.bool (decide (x ≤ y)))
  | .gtr => some (.bool (decide (x > y)))
  | .geq => some (.bool (decide (x ≥ y)))
  | _ => none
def strOp (op : BinOp) (x y : List UInt8) : Option AV :=
  match op with
  | .eql => some (.bool (decide (x = y)))
  | .neq => some (.bool (!decide (x = y)))
  | .add => some (.str (x ++ y))
  | _ => none

/-- Comparisons with nil. -/
def nilOp (d : TypeDesc) (x y : AV) : Option Bool :=
  match d, x, y with
  | .interface _, .iface _ _, .nili => some false
  | .interface _, .nili, .iface _ _ => some false
  | .interface _, .nili, .nili => some true
  | .pointer _, .nilp, .nilp => some true
  | .pointer _, .ptr .., .nilp => some false
  | .pointer _, .eptr .., .nilp => some false
  | .pointer _, .nilp, .ptr .. => some false
  | .pointer _, .nilp, .eptr .. => some false
  | .func .., .nilf, .nilf => some true
  | .func .., .func .., .nilf => some false
  | _, _, _ => none

theorem nilOp_run {P : Program} {μ : Mu} {ρ : Nat → Value} {L : LV} {w : World} {x y : AV} {cx cy : Value} (hx : VRel μ ρ L w x cx) (hy : VRel μ ρ L w y cy) {t : TypeId} {d : TypeDesc} {b : Bool}
    (hd : P.underlying t = some d) (hb : nilOp d x y = some b) : (Op.equal t cx cy).run P w = .ok b w ∧ (∀ op, op = .eql → (binOp op t cx cy).run P w = .ok (.bool b) w) ∧ (∀ op, op = .neq → (binOp op t cx cy).run P w = .ok (.bool !b) w) := by
  have key0 : ∀ n, (Op.equalIn (n + 1) t cx cy).run P w = .ok b w := by
    intro n
    unfold nilOp at hb
    split at hb <;> simp only [Option.some.injEq, reduceCtorEq] at hb <;> subst hb <;> cases hx <;> cases hy <;>
      simp [Op.equalIn, run_underlying hd]
  have key : (Op.equal t cx cy).run P w = .ok b w ∧ (binOp .eql t cx cy = do pure (.bool (← Op.equal t cx cy))) ∧ (binOp .neq t cx cy = do pure (.bool (!(← Op.equal t cx cy)))) := by
    unfold nilOp at hb
    split at hb <;> simp only [Option.some.injEq, reduceCtorEq] at hb <;> subst hb <;> cases hx <;> cases hy <;>
      exact ⟨key0 9999, rfl, rfl⟩
  refine ⟨key.1, fun op e => ?_, fun op e => ?_⟩
  · subst e; rw [key.2.1]; simp [key.1]
  · subst e; rw [key.2.2]; simp [key.1]

theorem intOp_run {P : Program} {μ : Mu} {ρ : Nat → Value} {L : LV} {w : World} {op : BinOp} {t : TypeId} {k : IntKind} {a b : Int} {v : AV} (hv : intOp op k a b = some v)
    (n1 : op ≠ .shl) (n2 : op ≠ .shr) (n3 : op ≠ .quo) (n4 : op ≠ .rem) : ∃ c, (binOp op t (.int k a) (.int k b)).run P w = .ok c w ∧ VRel μ ρ L w v c := by
  cases op <;> simp only [intOp, Option.some.injEq, reduceCtorEq] at hv <;> (try (first | exact absurd rfl n1 | exact absurd rfl n2 | exact absurd rfl n3 | exact absurd rfl n4)) <;> subst hv <;>
    exact ⟨_, by simp only [binOp, ne_eq, not_true_eq_false, if_false, Op.intArith, Op.intBits, Op.intCmp]; rfl, by constructor⟩

def aBin (X : Ctx) (op : BinOp) (t : TypeId) (x y : AV) (yc : Bool) (K : Post) : Prop :=
  match x, y with
  | .int k a, .int k' b =>
    match op with
    | .shl => 0 ≤ b ∧ K (.int k (k.wrap (a * 2 ^ min b.toNat k.bits))) [] []
    | .shr => 0 ≤ b ∧ K (.int k (a.fdiv (2 ^ min b.toNat k.bits))) [] []
    | .quo => k = k' ∧ b ≠ 0 ∧ K (.int k (k.wrap (a.tdiv b))) [] []
    | .rem => k = k' ∧ b ≠ 0 ∧ K (.int k (a.tmod b)) [] []
    | op => k = k' ∧ ∃ v, intOp op k a b = some v ∧ K v [] []
  | .str a, .str b => ((op = .add → a.length + b.length ≤ 9223372036854775807) ∧ ∃ v, strOp op a b = some v ∧ K v [] [])
  | .bool a, .bool b => X.P.underlying t = some .bool ∧ ((op = .eql ∧ K (.bool (a == b)) [] []) ∨ (op = .neq ∧ K (.bool (a != b)) [] []))
  | .agg xs, .agg ys => ∃ l b, eqOf X.P t = some l ∧ allEq l xs ys = some b ∧ ((op = .eql ∧ K (.bool b) [] []) ∨ (op = .neq ∧ K (.bool !b) [] []))
  | x, y => yc = true ∧ ∃ b d, X.P.underlying t = some d ∧ nilOp d x y = some b ∧ ((op = .eql ∧ K (.bool b) [] []) ∨ (op = .neq ∧ K (.bool !b) [] []))

theorem beq_bytes (a b : ByteArray) : (a.toList == b.toList) = decide (a.data.toList = b.data.toList) := by
  rw [ByteArray.toList_eq, ByteArray.toList_eq]
  by_cases h : a.data.toList = b.data.toList
  · simp [h]
  · rw [decide_eq_false h]; simpa using h

def constOp : Operand → Bool
  | .const _ => true
  | _ => false
theorem constOp_spec {x : Operand} (h : constOp x = true) : ∃ v, x = .const v := by
  cases x <;> simp_all [constOp]

theorem aBin_sound {op : BinOp} {t u : TypeId} {x y : Operand} (ho : o.op = .binOp op t x y u) (h : aBin X op t (r.ev x) (r.ev y) (constOp y) K) :
    ∃ v rd wr, K v rd wr ∧ Local X N o r H v rd wr := by
  have opn : ∀ (r' : Regs), (∀ z ∈ o.op.operands.toList, r'.ev z = r.ev z) → ∀ (H' : AH) μ ρ w0 a w, Rel X N μ ρ w0 r' H' a w →
      VRel μ ρ (Live μ H') w (r.ev x) (a.eval x) ∧ VRel μ ρ (Live μ H') w (r.ev y) (a.eval y) := fun r' hr' H' μ ρ w0 a w hR => by
    have hx := hR.ev x
    have hy := hR.ev y
    rw [hr' _ (by simp [ho, Op.operands])] at hx hy
    exact ⟨hx, hy⟩
  unfold aBin at h
  split at h
  · rename_i k a k' b hx hy
    rw [hx, hy] at opn
    split at h
    · refine ⟨_, _, _, h.2, local_pure fun r' hr' H' μ ρ w0 ac w hR => ?_⟩
      obtain ⟨h1, h2⟩ := opn r' hr' H' μ ρ w0 ac w hR
      generalize hcx : ac.eval x = cx at h1
      generalize hcy : ac.eval y = cy at h2
      cases h1; cases h2
      refine ⟨_, ?_, .int _ _⟩
      simp [execOp, ho, hcx, hcy, eqGuard, binOp, Op.shift, Int.not_lt.2 h.1]
    · refine ⟨_, _, _, h.2, local_pure fun r' hr' H' μ ρ w0 ac w hR => ?_⟩
      obtain ⟨h1, h2⟩ := opn r' hr' H' μ ρ w0 ac w hR
      generalize hcx : ac.eval x = cx at h1
      generalize hcy : ac.eval y = cy at h2
      cases h1; cases h2
      refine ⟨_, ?_, .int _ _⟩
      simp [execOp, ho, hcx, hcy, eqGuard, binOp, Op.shift, Int.not_lt.2 h.1]
    · obtain ⟨rfl, hb, hK⟩ := h
      refine ⟨_, _, _, hK, local_pure fun r' hr' H' μ ρ w0 ac w hR => ?_⟩
      obtain ⟨h1, h2⟩ := opn r' hr' H' μ ρ w0 ac w hR
      generalize hcx : ac.eval x = cx at h1
      generalize hcy : ac.eval y = cy at h2
      cases h1; cases h2
      refine ⟨_, ?_, .int _ _⟩
      simp [execOp, ho, hcx, hcy, eqGuard, binOp, Op.intDiv, hb]
    · obtain ⟨rfl, hb, hK⟩ := h
      refine ⟨_, _, _, hK, local_pure fun r' hr' H' μ ρ w0 ac w hR => ?_⟩
      obtain ⟨h1, h2⟩ := opn r' hr' H' μ ρ w0 ac w hR
      generalize hcx : ac.eval x = cx at h1
      generalize hcy : ac.eval y = cy at h2
      cases h1; cases h2
      refine ⟨_, ?_, .int _ _⟩
      simp [execOp, ho, hcx, hcy, eqGuard, binOp, Op.intDiv, hb]
    · rename_i n1 n2 n3 n4
      obtain ⟨rfl, v, hv, hK⟩ := h
      refine ⟨_, _, _, hK, local_pure fun r' hr' H' μ ρ w0 ac w hR => ?_⟩
      obtain ⟨h1, h2⟩ := opn r' hr' H' μ ρ w0 ac w hR
      generalize hcx : ac.eval x = cx at h1
      generalize hcy : ac.eval y = cy at h2
      cases h1; cases h2
      obtain ⟨c, h1, h2⟩ := intOp_run (P := X.P) (μ := μ) (ρ := ρ) (L := Live μ H') (w := w) (t := t) hv (fun e => n1 e) (fun e => n2 e) (fun e => n3 e) (fun e => n4 e)
      refine ⟨c, ?_, h2⟩
      have hg : (eqGuard op t x y (.int k a) (.int k b)).run X.P w = .ok () w := by cases op <;> simp [eqGuard]
      simp [execOp, ho, hcx, hcy, hg, h1]
  · rename_i a b hx hy
    rw [hx, hy] at opn
    obtain ⟨hlen, v, hv, hK⟩ := h
    refine ⟨_, _, _, hK, local_pure fun r' hr' H' μ ρ w0 ac w hR => ?_⟩
    obtain ⟨h1, h2⟩ := opn r' hr' H' μ ρ w0 ac w hR
    generalize hcx : ac.eval x = cx at h1
    generalize hcy : ac.eval y = cy at h2
    clear opn hx hy
    cases h1 with
    | str s =>
      cases h2 with
      | str s' =>
        cases op <;> simp only [strOp, Option.some.injEq, reduceCtorEq] at hv <;> subst hv
        · have hl : ¬ (((s.size + s'.size : Nat) : Int) > IntKind.i64.max) := by
            have := hlen rfl
            have e1 : s.data.toList.length = s.size := Array.length_toList
            have e2 : s'.data.toList.length = s'.size := Array.length_toList
            have e3 : IntKind.i64.max = 9223372036854775807 := by decide
            rw [e3]; omega
          refine ⟨.string (s ++ s'), by simp only [execOp, ho, hcx, hcy, eqGuard, binOp, Op.stringOp, if_neg hl]; simp, ?_⟩
          have : (s ++ s').data.toList = s.data.toList ++ s'.data.toList := by simp
          rw [← this]; exact .str _
        · exact ⟨.bool (decide (s.data.toList = s'.data.toList)), by simp [execOp, ho, hcx, hcy, eqGuard, binOp, Op.stringOp, beq_bytes], .bool _⟩
        · exact ⟨.bool (!decide (s.data.toList = s'.data.toList)), by simp [execOp, ho, hcx, hcy, eqGuard, binOp, Op.stringOp, beq_bytes], .bool _⟩
  · rename_i a b hx hy
    rw [hx, hy] at opn
    obtain ⟨ht, ⟨rfl, hK⟩ | ⟨rfl, hK⟩⟩ := h
    · refine ⟨_, _, _, hK, local_pure fun r' hr' H' μ ρ w0 ac w hR => ?_⟩
      obtain ⟨h1, h2⟩ := opn r' hr' H' μ ρ w0 ac w hR
      generalize hcx : ac.eval x = cx at h1
      generalize hcy : ac.eval y = cy at h2
      cases h1; cases h2
      have he : (Op.equal t (.bool a) (.bool b)).run X.P w = .ok (a == b) w := run_equalIn_bool w 9999 t a b ht
      refine ⟨.bool (a == b), ?_, .bool _⟩
      simp [execOp, ho, hcx, hcy, eqGuard, binOp, he]
    · refine ⟨_, _, _, hK, local_pure fun r' hr' H' μ ρ w0 ac w hR => ?_⟩
      obtain ⟨h1, h2⟩ := opn r' hr' H' μ ρ w0 ac w hR
      generalize hcx : ac.eval x = cx at h1
      generalize hcy : ac.eval y = cy at h2
      cases h1; cases h2
      have he : (Op.equal t (.bool a) (.bool b)).run X.P w = .ok (a == b) w := run_equalIn_bool w 9999 t a b ht
      refine ⟨.bool (a != b), ?_, .bool _⟩
      simp [execOp, ho, hcx, hcy, eqGuard, binOp, he]
      cases a <;> cases b <;> rfl
  · rename_i xs ys hx hy
    rw [hx, hy] at opn
    obtain ⟨l, b, hl, hb, h⟩ := h
    have key : ∀ (r' : Regs), (∀ z ∈ o.op.operands.toList, r'.ev z = r.ev z) → ∀ (H' : AH) μ ρ w0 ac w, Rel X N μ ρ w0 r' H' ac w →
        ∃ A B, ac.eval x = .agg A ∧ ac.eval y = .agg B ∧ (eqGuard op t x y (.agg A) (.agg B)).run X.P w = .ok () w ∧ (Op.equal t (.agg A) (.agg B)).run X.P w = .ok b w := fun r' hr' H' μ ρ w0 ac w hR => by
      obtain ⟨h1, h2⟩ := opn r' hr' H' μ ρ w0 ac w hR
      generalize hcx : ac.eval x = cx at h1
      generalize hcy : ac.eval y = cy at h2
      have e1 : ∃ A, cx = .agg A := by cases h1; exact ⟨_, rfl⟩
      have e2 : ∃ B, cy = .agg B := by cases h2; exact ⟨_, rfl⟩
      obtain ⟨A, rfl⟩ := e1
      obtain ⟨B, rfl⟩ := e2
      obtain ⟨k1, k2⟩ := aggEq_run hl hb h1 h2
      exact ⟨A, B, rfl, rfl, by cases op <;> simp [eqGuard, k2], k1⟩
    rcases h with ⟨rfl, hK⟩ | ⟨rfl, hK⟩
    · refine ⟨_, _, _, hK, local_pure fun r' hr' H' μ ρ w0 ac w hR => ?_⟩
      obtain ⟨A, B, e1, e2, k1, k2⟩ := key r' hr' H' μ ρ w0 ac w hR
      have e3 : binOp .eql t (.agg A) (.agg B) = (do pure (.bool (← Op.equal t (.agg A) (.agg B)))) := rfl
      exact ⟨.bool b, by simp [execOp, ho, e1, e2, k1, e3, k2], .bool _⟩
    · refine ⟨_, _, _, hK, local_pure fun r' hr' H' μ ρ w0 ac w hR => ?_⟩
      obtain ⟨A, B, e1, e2, k1, k2⟩ := key r' hr' H' μ ρ w0 ac w hR
      have e3 : binOp .neq t (.agg A) (.agg B) = (do pure (.bool (!(← Op.equal t (.agg A) (.agg B))))) := rfl
      exact ⟨.bool !b, by simp [execOp, ho, e1, e2, k1, e3, k2], .bool _⟩
  · obtain ⟨hc, b, d, hd, hb, h⟩ := h
    obtain ⟨cv, hcv⟩ := constOp_spec hc
    have key : ∀ (r' : Regs), (∀ z ∈ o.op.operands.toList, r'.ev z = r.ev z) → ∀ (H' : AH) μ ρ w0 ac w, Rel X N μ ρ w0 r' H' ac w →
        (eqGuard op t x y (ac.eval x) (ac.eval y)).run X.P w = .ok () w ∧
        (op = .eql → (binOp op t (ac.eval x) (ac.eval y)).run X.P w = .ok (.bool b) w) ∧ (op = .neq → (binOp op t (ac.eval x) (ac.eval y)).run X.P w = .ok (.bool !b) w) := fun r' hr' H' μ ρ w0 ac w hR => by
      obtain ⟨h1, h2⟩ := opn r' hr' H' μ ρ w0 ac w hR
      have hn := nilOp_run h1 h2 hd hb
      refine ⟨?_, hn.2.1 op, hn.2.2 op⟩
      generalize r.ev x = vx at h1 hb
      generalize r.ev y = vy at h2 hb
      generalize ac.eval x = cx at h1 ⊢
      generalize ac.eval y = cy at h2 ⊢
      unfold nilOp at hb
      split at hb <;> simp only [Option.some.injEq, reduceCtorEq] at hb <;> cases h1 <;> cases h2 <;> cases op <;> simp [eqGuard, hcv]
    rcases h with ⟨e, hK⟩ | ⟨e, hK⟩
    · refine ⟨_, _, _, hK, local_pure fun r' hr' H' μ ρ w0 ac w hR => ?_⟩
      obtain ⟨k1, k2, _⟩ := key r' hr' H' μ ρ w0 ac w hR
      exact ⟨.bool b, by simp [execOp, ho, k1, k2 e], .bool _⟩
    · refine ⟨_, _, _, hK, local_pure fun r' hr' H' μ ρ w0 ac w hR => ?_⟩
      obtain ⟨k1, _, k2⟩ := key r' hr' H' μ ρ w0 ac w hR
      exact ⟨.bool !b, by simp [execOp, ho, k1, k2 e], .bool _⟩
end
end Go.Proofs.YtndoembhbfiokaaGreatDoor.Am
/- More operations that leave the world as it is: addresses, parts, lengths, pieces. -/
set_option linter.unusedVariables false
set_option linter.unusedSimpArgs false
namespace Go.Proofs.YtndoembhbfiokaaGreatDoor.Am
open Go.RowKit

/-- A field's place and its size, and whether it is of several cells. -/
def fldOf (P : Program) (s : TypeId) (f : Nat) : Option (Nat × Nat × Bool) :=
  match P.underlying s with
  | some (.struct fs) => (fs[f]?).bind fun fl => (ldOf P fl.type).map fun x => (fl.offset, x.1, x.2)
  | _ => none
theorem fldOf_spec {P : Program} {s : TypeId} {f off n : Nat} {g : Bool} (h : fldOf P s f = some (off, n, g)) :
    ∃ fs fl, P.underlying s = some (.struct fs) ∧ fs[f]? = some fl ∧ fl.offset = off ∧ ldOf P fl.type = some (n, g) := by
  unfold fldOf at h
  split at h
  · rename_i fs hu
    simp only [Option.bind_eq_some_iff, Option.map_eq_some_iff, Prod.mk.injEq] at h
    obtain ⟨fl, h1, x, h2, rfl, rfl, rfl⟩ := h
    exact ⟨fs, fl, hu, h1, rfl, h2⟩
  · cases h
def slOf (P : Program) (t : TypeId) : Option (TypeId × Nat × Nat) :=
  match P.underlying t with
  | some (.slice e) => (P.info? e).map fun i => (e, i.size, i.bytes)
  | _ => none
theorem slOf_spec {P : Program} {t e : TypeId} {n by_ : Nat} (h : slOf P t = some (e, n, by_)) : P.underlying t = some (.slice e) ∧ ∃ i, P.info? e = some i ∧ i.size = n ∧ i.bytes = by_ := by
  unfold slOf at h
  split at h
  · simp only [Option.map_eq_some_iff, Prod.mk.injEq] at h
    obtain ⟨i, h1, rfl, rfl, rfl⟩ := h
    exact ⟨by assumption, i, h1, rfl, rfl⟩
  · cases h
def arOf (P : Program) (t : TypeId) : Option (Nat × TypeId × Nat) :=
  match P.underlying t with
  | some (.array n e) => (szOf P e).map fun s => (n, e, s)
  | _ => none
theorem arOf_spec {P : Program} {t e : TypeId} {n s : Nat} (h : arOf P t = some (n, e, s)) : P.underlying t = some (.array n e) ∧ szOf P e = some s := by
  unfold arOf at h
  split at h
  · simp only [Option.map_eq_some_iff, Prod.mk.injEq] at h
    obtain ⟨i, h1, rfl, rfl, rfl⟩ := h
    exact ⟨by assumption, h1⟩
  · cases h

section
variable {X : Ctx} {N : Nat} {o : Oper} {r : Regs} {H : AH} {K : Post}

def AV.shift (p : AV) (k : Nat) : AV :=
  match p with
  | .ptr id ver i off => .ptr id ver i (off + k)
  | .eptr xs i off => .eptr xs i (off + k)
  | _ => .any
def AV.isAddr : AV → Bool
  | .ptr .. | .eptr .. => true
  | _ => false
theorem VRel.shift {μ : Mu} {ρ : Nat → Value} {L : LV} {w : World} {p : AV} {c : Value} (h : VRel μ ρ L w p c) (hp : p.isAddr = true) (k : Nat) :
    ∃ b q, c = .pointer (some ⟨b, q, none⟩) ∧ VRel μ ρ L w (p.shift k) (.pointer (some ⟨b, q + k, none⟩)) := by
  cases h <;> simp [AV.isAddr] at hp
  case ptr id ver i off b sz h => exact ⟨b, _, rfl, by rw [Nat.add_assoc]; exact .ptr id ver i (off + k) b sz h⟩
  case eptr xs i off b o sz f hL hb hz hc hr => exact ⟨b, _, rfl, by rw [Nat.add_assoc]; exact .eptr xs i (off + k) b o sz f hL hb hz hc hr⟩

def aFieldAddr (X : Ctx) (s : TypeId) (p : AV) (f : Nat) (K : Post) : Prop :=
  ∃ off n g, fldOf X.P s f = some (off, n, g) ∧ n ≠ 0 ∧ p.isAddr = true ∧ K (p.shift off) [] []
theorem aFieldAddr_sound {s : TypeId} {x : Operand} {f : Nat} (ho : o.op = .fieldAddr s x f) (h : aFieldAddr X s (r.ev x) f K) : ∃ v rd wr, K v rd wr ∧ Local X N o r H v rd wr := by
  obtain ⟨off, n, g, hf, hn, hp, hK⟩ := h
  obtain ⟨fs, fl, hu, hfl, rfl, hld⟩ := fldOf_spec hf
  obtain ⟨d, _, hsz, _⟩ := ldOf_spec hld
  refine ⟨_, _, _, hK, local_pure fun r' hr' H' μ ρ w0 a w hR => ?_⟩
  have hv := hR.ev x
  rw [hr' x (by simp [ho, Op.operands])] at hv
  obtain ⟨b, q, hc, hv'⟩ := hv.shift hp fl.offset
  refine ⟨_, ?_, hv'⟩
  simp [execOp, ho, Instr.fieldAt, run_underlying hu, hfl, Instr.sureAddr, hc, fieldPlace, run_szOf hsz, hn, Addr.add_lit]

def aField (X : Ctx) (s : TypeId) (x : AV) (f : Nat) (K : Post) : Prop :=
  match x with
  | .agg cs => ∃ off n g, fldOf X.P s f = some (off, n, g) ∧
      if g = true then off + n ≤ cs.length ∧ K (.agg ((cs.drop off).take n)) [] [] else ∃ c, cs[off]? = some c ∧ K c [] []
  | _ => False

theorem run_part {P : Program} {μ : Mu} {ρ : Nat → Value} {L : LV} {w : World} {cs : List AV} {C : Array Value} (h : VRel μ ρ L w (.agg cs) (.agg C)) {t : TypeId} {n off : Nat} {g : Bool}
    (hld : ldOf P t = some (n, g)) {K : AV → Prop} (hK : if g = true then off + n ≤ cs.length ∧ K (.agg ((cs.drop off).take n)) else ∃ c, cs[off]? = some c ∧ K c) :
    ∃ v c, K v ∧ (part t C off).run P w = .ok c w ∧ VRel μ ρ L w v c := by
  obtain ⟨d, hd, hsz, hg⟩ := ldOf_spec hld
  cases h with
  | agg _ _ hC hc =>
    split at hK
    · rename_i hgt
      subst hgt
      refine ⟨_, .agg (C.extract off (off + n)), hK.2, by simp [part, run_aggT hd, hg, run_szOf hsz], .agg _ _ ?_ fun j h1 h2 => ?_⟩
      · simp; omega
      · simp only [List.length_take, List.length_drop] at h1
        simpa using hc (off + j) (by omega) (by omega)
    · rename_i hgt
      obtain ⟨c, hcs, hKc⟩ := hK
      obtain ⟨hi, rfl⟩ := List.getElem?_eq_some_iff.1 hcs
      have hC' : off < C.size := by omega
      refine ⟨_, C[off], hKc, ?_, hc off hi hC'⟩
      have hgf : aggT d = false := by rw [hg]; simpa using hgt
      simp [part, run_aggT hd, hgf, Array.getElem?_eq_getElem hC']
theorem aField_sound {s : TypeId} {x : Operand} {f : Nat} (ho : o.op = .field s x f) (h : aField X s (r.ev x) f K) : ∃ v rd wr, K v rd wr ∧ Local X N o r H v rd wr := by
  unfold aField at h
  split at h
  · rename_i cs hx
    obtain ⟨off, n, g, hf, h⟩ := h
    obtain ⟨fs, fl, hu, hfl, rfl, hld⟩ := fldOf_spec hf
    have hv0 : ∃ v, K v [] [] ∧ ∀ μ ρ L w (C : Array Value), VRel μ ρ L w (.agg cs) (.agg C) → ∃ c, (part fl.type C fl.offset).run X.P w = .ok c w ∧ VRel μ ρ L w v c := by
      split at h
      · rename_i hg
        refine ⟨_, h.2, fun μ ρ L w C hC => ?_⟩
        obtain ⟨v, c, hv, h1, h2⟩ := run_part hC hld (K := fun v => v = .agg ((cs.drop fl.offset).take n)) (by rw [if_pos hg]; exact ⟨h.1, rfl⟩)
        subst hv; exact ⟨c, h1, h2⟩
      · rename_i hg
        obtain ⟨cc, hcc, hK⟩ := h
        refine ⟨_, hK, fun μ ρ L w C hC => ?_⟩
        obtain ⟨v, c, hv, h1, h2⟩ := run_part hC hld (K := fun v => v = cc) (by rw [if_neg hg]; exact ⟨cc, hcc, rfl⟩)
        subst hv; exact ⟨c, h1, h2⟩
    obtain ⟨v, hK, hrun⟩ := hv0
    refine ⟨_, _, _, hK, local_pure fun r' hr' H' μ ρ w0 a w hR => ?_⟩
    have hv := hR.ev x
    rw [hr' x (by simp [ho, Op.operands]), hx] at hv
    generalize hcv : a.eval x = cv at hv
    have hC : ∃ C, cv = .agg C := by cases hv; exact ⟨_, rfl⟩
    obtain ⟨C, rfl⟩ := hC
    obtain ⟨c, h1, h2⟩ := hrun _ _ _ w C hv
    exact ⟨c, by simp [execOp, ho, Instr.field, run_underlying hu, hfl, hcv, asAgg, h1], h2⟩
  · exact h.elim

def aIndexAddr (X : Ctx) (t : TypeId) (x i : AV) (K : Post) : Prop :=
  match x, i with
  | .fsl xs, .int _ j => ∃ e n by_ y, slOf X.P t = some (e, n, by_) ∧ 0 ≤ j ∧ xs[j.toNat]? = some y ∧ y.cells.length = n ∧ K (.eptr xs j.toNat 0) [] []
  | .csl xs, .int _ j => ∃ e n by_ y, slOf X.P t = some (e, n, by_) ∧ 0 ≤ j ∧ xs[j.toNat]? = some y ∧ y.cells.length = n ∧ K (.eptr xs j.toNat 0) [] []
  | .sl id ver off len, .int _ j => ∃ e n by_ xs, slOf X.P t = some (e, n, by_) ∧ 0 ≤ j ∧ j.toNat < len ∧ H id = .row xs n ver ∧ K (.ptr id ver (off + j.toNat) 0) [id] []
  | p, .int _ j => ∃ n e s, arOf X.P t = some (n, e, s) ∧ p.isAddr = true ∧ 0 ≤ j ∧ j < n ∧ K (p.shift (j.toNat * s)) [] []
  | _, _ => False
theorem aIndexAddr_sound {t : TypeId} {x i : Operand} (ho : o.op = .indexAddr t x i) (h : aIndexAddr (H := H) X t (r.ev x) (r.ev i) K) : ∃ v rd wr, K v rd wr ∧ Local X N o r H v rd wr := by
  have opn : ∀ (r' : Regs), (∀ z ∈ o.op.operands.toList, r'.ev z = r.ev z) → ∀ (H' : AH) μ ρ w0 a w, Rel X N μ ρ w0 r' H' a w →
      VRel μ ρ (Live μ H') w (r.ev x) (a.eval x) ∧ VRel μ ρ (Live μ H') w (r.ev i) (a.eval i) := fun r' hr' H' μ ρ w0 a w hR => by
    have hx := hR.ev x
    have hy := hR.ev i
    rw [hr' _ (by simp [ho, Op.operands])] at hx hy
    exact ⟨hx, hy⟩
  unfold aIndexAddr at h
  split at h
  · rename_i xs k j hx hi
    rw [hx, hi] at opn
    obtain ⟨e, n, by_, y, hs, hj, hy, hyn, hK⟩ := h
    obtain ⟨hu, inf, hinf, hn, _⟩ := slOf_spec hs
    obtain ⟨hlt, rfl⟩ := List.getElem?_eq_some_iff.1 hy
    refine ⟨_, _, _, hK, local_pure fun r' hr' H' μ ρ w0 a w hR => ?_⟩
    obtain ⟨h1, h2⟩ := opn r' hr' H' μ ρ w0 a w hR
    generalize hcx : a.eval x = cx at h1
    generalize hci : a.eval i = ci at h2
    cases h2
    cases h1 with
    | fsl0 => simp at hlt
    | fsl _ b o' sz cap f hL hb hcap hz hc hr =>
      have hsz : sz = inf.size := by rw [← hz _ hlt, hyn, hn]
      subst hsz
      refine ⟨.pointer (some ⟨b, o' + j.toNat * inf.size + 0, none⟩), ?_, .eptr xs j.toNat 0 b o' inf.size f hL hb hz hc hr⟩
      have hjl : j < (xs.length : Int) := by omega
      simp [execOp, ho, Instr.indexAt, hcx, hci, asIntOf, run_underlying hu, hj, hjl, sizeOf, typeInfo, hinf, Addr.add_lit]
  · rename_i xs k j hx hi
    rw [hx, hi] at opn
    obtain ⟨e, n, by_, y, hs, hj, hy, hyn, hK⟩ := h
    obtain ⟨hu, inf, hinf, hn, _⟩ := slOf_spec hs
    obtain ⟨hlt, rfl⟩ := List.getElem?_eq_some_iff.1 hy
    refine ⟨_, _, _, hK, local_pure fun r' hr' H' μ ρ w0 a w hR => ?_⟩
    obtain ⟨h1, h2⟩ := opn r' hr' H' μ ρ w0 a w hR
    generalize hcx : a.eval x = cx at h1
    generalize hci : a.eval i = ci at h2
    cases h2
    cases h1 with
    | csl0 => simp at hlt
    | csl _ b o' sz f hL hb hz hc hr =>
      have hsz : sz = inf.size := by rw [← hz _ hlt, hyn, hn]
      subst hsz
      refine ⟨.pointer (some ⟨b, o' + j.toNat * inf.size + 0, none⟩), ?_, .eptr xs j.toNat 0 b o' inf.size f hL hb hz hc hr⟩
      have hjl : j < (xs.length : Int) := by omega
      simp [execOp, ho, Instr.indexAt, hcx, hci, asIntOf, run_underlying hu, hj, hjl, sizeOf, typeInfo, hinf, Addr.add_lit]
  · rename_i id ver off len k j hx hi
    rw [hx, hi] at opn
    obtain ⟨e, n, by_, xs, hs, hj, hjl, hH, hK⟩ := h
    obtain ⟨hu, inf, hinf, hn, _⟩ := slOf_spec hs
    refine ⟨_, _, _, hK, by simp, fun r' H' hr' hH' => SemOp.same fun μ ρ w0 a w hR => ?_⟩
    obtain ⟨h1, h2⟩ := opn r' hr' H' μ ρ w0 a w hR
    have hHid : H' id = .row xs n ver := by rw [hH' id (by simp), hH]
    generalize hcx : a.eval x = cx at h1
    generalize hci : a.eval i = ci at h2
    cases h2
    cases h1 with
    | sl0 => simp at hjl
    | sl _ _ _ _ b sz cap e' n' hμ hlen hshp hcap =>
      obtain ⟨rfl, _⟩ := hR.world.row_at hHid hμ
      refine ⟨.pointer (some ⟨b, (off + j.toNat) * sz + 0, none⟩), ?_, .ptr id ver (off + j.toNat) 0 b sz hμ⟩
      have hjl' : j < (len : Int) := by omega
      simp [execOp, ho, Instr.indexAt, hcx, hci, asIntOf, run_underlying hu, hj, hjl', sizeOf, typeInfo, hinf, hn, Addr.add_lit, Nat.add_mul]
  · rename_i p k j hi n1 n2 n3
    rw [hi] at opn
    obtain ⟨n, e, s, ha, hp, hj, hjn, hK⟩ := h
    obtain ⟨hu, hsz⟩ := arOf_spec ha
    refine ⟨_, _, _, hK, local_pure fun r' hr' H' μ ρ w0 a w hR => ?_⟩
    obtain ⟨h1, h2⟩ := opn r' hr' H' μ ρ w0 a w hR
    generalize hci : a.eval i = ci at h2
    cases h2
    obtain ⟨b, q, hc, hv'⟩ := h1.shift hp (j.toNat * s)
    refine ⟨_, ?_, hv'⟩
    simp [execOp, ho, Instr.indexAt, hc, hci, asIntOf, run_underlying hu, hj, hjn, Instr.sureAddr, run_szOf hsz, Addr.add_lit]
  · exact h.elim

theorem ba_get? (s : ByteArray) (k : Nat) : s[k]? = s.data.toList[k]? := by
  rw [Array.getElem?_toList]
  by_cases h : k < s.size
  · rw [getElem?_pos s k h, getElem?_pos s.data k h]; rfl
  · rw [getElem?_neg s k h, getElem?_neg s.data k h]

def aIndex (X : Ctx) (t : TypeId) (x i : AV) (K : Post) : Prop :=
  match x, i with
  | .str l, .int _ j => X.P.underlying t = some .string ∧ 0 ≤ j ∧ ∃ b, l[j.toNat]? = some b ∧ K (.int .u8 b.toNat) [] []
  | .agg cs, .int _ j => ∃ n e s, arOf X.P t = some (n, e, s) ∧ ldOf X.P e = some (1, false) ∧ 0 ≤ j ∧ j < n ∧ ∃ c, cs[j.toNat]? = some c ∧ K c [] []
  | _, _ => False
theorem aIndex_sound {t : TypeId} {x i : Operand} (ho : o.op = .index t x i) (h : aIndex X t (r.ev x) (r.ev i) K) : ∃ v rd wr, K v rd wr ∧ Local X N o r H v rd wr := by
  have opn : ∀ (r' : Regs), (∀ z ∈ o.op.operands.toList, r'.ev z = r.ev z) → ∀ (H' : AH) μ ρ w0 a w, Rel X N μ ρ w0 r' H' a w →
      VRel μ ρ (Live μ H') w (r.ev x) (a.eval x) ∧ VRel μ ρ (Live μ H') w (r.ev i) (a.eval i) := fun r' hr' H' μ ρ w0 a w hR => by
    have hx := hR.ev x
    have hy := hR.ev i
    rw [hr' _ (by simp [ho, Op.operands])] at hx hy
    exact ⟨hx, hy⟩
  unfold aIndex at h
  split at h
  · rename_i l k j hx hi
    rw [hx, hi] at opn
    obtain ⟨hu, hj, b, hb, hK⟩ := h
    refine ⟨_, _, _, hK, local_pure fun r' hr' H' μ ρ w0 a w hR => ?_⟩
    obtain ⟨h1, h2⟩ := opn r' hr' H' μ ρ w0 a w hR
    generalize hcx : a.eval x = cx at h1
    generalize hci : a.eval i = ci at h2
    cases h2
    cases h1 with
    | str s =>
      have hb' : s[j.toNat]? = some b := by
        rw [← hb]; exact ba_get? s _
      exact ⟨.int .u8 b.toNat, by simp [execOp, ho, Instr.index, hcx, hci, asIntOf, run_underlying hu, hj, hb'], .int _ _⟩
  · rename_i cs k j hx hi
    rw [hx, hi] at opn
    obtain ⟨n, e, s, ha, hl, hj, hjn, c, hc, hK⟩ := h
    obtain ⟨hu, hsz⟩ := arOf_spec ha
    obtain ⟨d, hd, hsz1, hg⟩ := ldOf_spec hl
    obtain rfl : s = 1 := by rw [hsz] at hsz1; exact Option.some.inj hsz1
    refine ⟨_, _, _, hK, local_pure fun r' hr' H' μ ρ w0 a w hR => ?_⟩
    obtain ⟨h1, h2⟩ := opn r' hr' H' μ ρ w0 a w hR
    generalize hcx : a.eval x = cx at h1
    generalize hci : a.eval i = ci at h2
    cases h2
    have hC : ∃ C, cx = .agg C := by cases h1; exact ⟨_, rfl⟩
    obtain ⟨C, rfl⟩ := hC
    obtain ⟨v, u, hv, k1, k2⟩ := run_part (P := X.P) h1 hl (off := j.toNat) (K := fun v => v = c) (by simp only [Bool.false_eq_true, if_false]; exact ⟨c, hc, rfl⟩)
    subst hv
    exact ⟨u, by simp [execOp, ho, Instr.index, hcx, hci, asIntOf, run_underlying hu, hj, hjn, run_szOf hsz, k1], k2⟩
  · exact h.elim

def aExtract (x : AV) (i : Nat) (K : Post) : Prop :=
  match x with
  | .tup vs => ∃ v, vs[i]? = some v ∧ K v [] []
  | _ => False
theorem aExtract_sound {x : Operand} {i : Nat} (ho : o.op = .extract x i) (h : aExtract (r.ev x) i K) : ∃ v rd wr, K v rd wr ∧ Local X N o r H v rd wr := by
  unfold aExtract at h
  split at h
  · rename_i vs hx
    obtain ⟨v, hv, hK⟩ := h
    obtain ⟨hlt, rfl⟩ := List.getElem?_eq_some_iff.1 hv
    refine ⟨_, _, _, hK, local_pure fun r' hr' H' μ ρ w0 a w hR => ?_⟩
    have hv := hR.ev x
    rw [hr' x (by simp [ho, Op.operands]), hx] at hv
    generalize hcv : a.eval x = cv at hv
    cases hv with
    | tup _ C hC hc =>
      have : i < C.size := by omega
      exact ⟨C[i], by simp [execOp, ho, Instr.extract, hcv, Array.getElem?_eq_getElem this], hc i hlt this⟩
  · exact h.elim

def aMakeIface (X : Ctx) (t : TypeId) (x : AV) (K : Post) : Prop := X.P.concrete t = true ∧ K (.iface t x) [] []
theorem aMakeIface_sound {t : TypeId} {x : Operand} (ho : o.op = .makeInterface t x) (h : aMakeIface X t (r.ev x) K) : ∃ v rd wr, K v rd wr ∧ Local X N o r H v rd wr := by
  refine ⟨_, _, _, h.2, local_pure fun r' hr' H' μ ρ w0 a w hR => ?_⟩
  have hv := hR.ev x
  rw [hr' x (by simp [ho, Op.operands])] at hv
  exact ⟨_, by simp [execOp, ho, run_makeInterface w t _ h.1], .iface t _ _ hv⟩

theorem aMakeFunc_sound {fn : Fn} {f c : Array Operand} (ho : o.op = .makeFunc fn f c) (h : K (.func fn (f.toList.map r.ev) (c.toList.map r.ev)) [] []) : ∃ v rd wr, K v rd wr ∧ Local X N o r H v rd wr := by
  refine ⟨_, _, _, h, local_pure fun r' hr' H' μ ρ w0 a w hR => ?_⟩
  refine ⟨.func fn (f.map a.eval) (c.map a.eval), by simp [execOp, ho, Instr.makeFunc], .func _ _ _ _ _ (by simp) (by simp) (fun j h1 h2 => ?_) (fun j h1 h2 => ?_)⟩
  · simp only [List.getElem_map, Array.getElem_map, Array.getElem_toList]
    rw [← hr' _ (by simp only [ho, Op.operands, Array.toList_append, List.mem_append]; left; simp)]
    exact hR.ev _
  · simp only [List.getElem_map, Array.getElem_map, Array.getElem_toList]
    rw [← hr' _ (by simp only [ho, Op.operands, Array.toList_append, List.mem_append]; right; simp)]
    exact hR.ev _
end
end Go.Proofs.YtndoembhbfiokaaGreatDoor.Am
