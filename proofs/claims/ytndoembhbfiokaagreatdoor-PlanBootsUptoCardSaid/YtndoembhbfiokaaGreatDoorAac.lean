/- The logic and the contracts that the laws stand on, part 3. -/
import Derived.Test.YtndoembhbfiokaaGreatDoorAab
import Derived.Laws.StructEq
/- Structs and arrays held against one another. -/
set_option linter.unusedVariables false
set_option linter.unusedSimpArgs false
namespace Go.Proofs.YtndoembhbfiokaaGreatDoor.Am
open Go.RowKit

/-- The kinds of plain cells. -/
inductive LK where
  | b | i | s
  deriving DecidableEq
def eqK : LK → AV → AV → Option Bool
  | .i, .int j a, .int k b => if j = k then some (a == b) else none
  | .b, .bool a, .bool b => some (a == b)
  | .s, .str a, .str b => some (decide (a = b))
  | _, _, _ => none
def allEq : List LK → List AV → List AV → Option Bool
  | [], [], [] => some true
  | k :: ks, x :: xs, y :: ys => (eqK k x y).bind fun a => (allEq ks xs ys).map fun b => a && b
  | _, _, _ => none
theorem allEq_len : ∀ (ks : List LK) (xs ys : List AV) (b : Bool), allEq ks xs ys = some b → xs.length = ks.length ∧ ys.length = ks.length
  | [], [], [], _, _ => ⟨rfl, rfl⟩
  | k :: ks, x :: xs, y :: ys, b, h => by
    simp only [allEq, Option.bind_eq_some_iff, Option.map_eq_some_iff] at h
    obtain ⟨_, _, r, h, _⟩ := h
    have := allEq_len ks xs ys r h
    simp [this.1, this.2]
  | [], _ :: _, _, _, h => by simp [allEq] at h
  | [], [], _ :: _, _, h => by simp [allEq] at h
  | _ :: _, [], _, _, h => by simp [allEq] at h
  | _ :: _, _ :: _, [], _, h => by simp [allEq] at h
theorem allEq_append : ∀ (k1 k2 : List LK) (a b c d : List AV) (r : Bool), a.length = k1.length → b.length = k1.length → allEq (k1 ++ k2) (a ++ c) (b ++ d) = some r → ∃ r1 r2, allEq k1 a b = some r1 ∧ allEq k2 c d = some r2 ∧ r = (r1 && r2)
  | [], k2, [], [], c, d, r, _, _, h => ⟨true, r, rfl, h, by simp⟩
  | k :: k1, k2, x :: a, y :: b, c, d, r, hl, hl', h => by
    simp only [List.cons_append, allEq, Option.bind_eq_some_iff, Option.map_eq_some_iff] at h
    obtain ⟨e, he, r', hr', rfl⟩ := h
    obtain ⟨r1, r2, h1, h2, rfl⟩ := allEq_append k1 k2 a b c d r' (by simpa using hl) (by simpa using hl') hr'
    exact ⟨e && r1, r2, by simp [allEq, he, h1], h2, by cases e <;> simp⟩
  | [], _, _ :: _, _, _, _, _, hl, _, _ => by simp at hl
  | [], _, [], _ :: _, _, _, _, _, hl, _ => by simp at hl
  | _ :: _, _, [], _, _, _, _, hl, _, _ => by simp at hl
  | _ :: _, _, _ :: _, [], _, _, _, _, hl, _ => by simp at hl

def leavesFs (lv : TypeId → Option (List LK)) : List Field → Nat → Option (List LK)
  | [], _ => some []
  | f :: fs, o => if f.name ≠ "_" ∧ f.offset = o then (lv f.type).bind fun a => (leavesFs lv fs (o + a.length)).map (a ++ ·) else none
/-- The cells of a type of plain cells alone, structs and arrays of them. -/
def leaves (P : Program) : Nat → TypeId → Option (List LK)
  | 0, _ => none
  | d + 1, t => (match P.underlying t with
    | some .bool => some [LK.b]
    | some (.int _) => some [LK.i]
    | some .string => some [LK.s]
    | some (.struct fs) => if P.stoodInHeld t = true then none else leavesFs (leaves P d) fs.toList 0
    | some (.array n e) => (leaves P d e).map fun a => (List.replicate n a).flatten
    | _ => none).bind fun l => if szOf P t = some l.length then some l else none
def eqOf (P : Program) (t : TypeId) : Option (List LK) := if P.eqGuardType P.depth t = false ∧ (P.underlying t).map aggT = some true then leaves P 8 t else none

/-- A value of a type, by its cells. -/
def VC (P : Program) (μ : Mu) (ρ : Nat → Value) (L : LV) (w : World) (t : TypeId) (xs : List AV) (v : Value) : Prop :=
  ∃ d, P.underlying t = some d ∧ if aggT d = true then ∃ C : Array Value, v = .agg C ∧ VRel μ ρ L w (.agg xs) (.agg C) else ∃ x, xs = [x] ∧ VRel μ ρ L w x v

theorem beq_bytes0 (a b : ByteArray) : (a.toList == b.toList) = decide (a.data.toList = b.data.toList) := by
  rw [ByteArray.toList_eq, ByteArray.toList_eq]
  by_cases h : a.data.toList = b.data.toList
  · simp [h]
  · rw [decide_eq_false h]; simpa using h
section
variable {P : Program} {μ : Mu} {ρ : Nat → Value} {L : LV} {w : World}
theorem leaves_under {d : Nat} {t : TypeId} {l : List LK} (h : leaves P d t = some l) : ∃ e, P.underlying t = some e ∧ szOf P t = some l.length ∧ (aggT e = false → l.length = 1) := by
  cases d with
  | zero => cases h
  | succ d =>
    simp only [leaves, Option.bind_eq_some_iff] at h
    obtain ⟨l', h, h'⟩ := h
    split at h'
    · rename_i hs
      simp only [Option.some.injEq] at h'
      subst h'
      split at h
      · rename_i hu; exact ⟨_, hu, hs, fun _ => by simp at h; rw [← h]; rfl⟩
      · rename_i hu; exact ⟨_, hu, hs, fun _ => by simp at h; rw [← h]; rfl⟩
      · rename_i hu; exact ⟨_, hu, hs, fun _ => by simp at h; rw [← h]; rfl⟩
      · rename_i hu; exact ⟨_, hu, hs, fun e => by cases e⟩
      · rename_i hu; exact ⟨_, hu, hs, fun e => by cases e⟩
      · cases h
    · cases h'
theorem VC.part {d : Nat} {t : TypeId} {l : List LK} {o : Nat} {xs : List AV} {C : Array Value} (h : VRel μ ρ L w (.agg xs) (.agg C)) (ht : leaves P d t = some l) (hle : o + l.length ≤ xs.length) :
    ∃ v, (Go.part t C o).run P w = .ok v w ∧ VC P μ ρ L w t ((xs.drop o).take l.length) v := by
  obtain ⟨e, hu, hn, h1⟩ := leaves_under ht
  cases h with
  | agg _ _ hC hc =>
    by_cases ha : aggT e = true
    · refine ⟨.agg (C.extract o (o + l.length)), by simp [Go.part, run_aggT hu, ha, run_szOf hn], e, hu, ?_⟩
      rw [if_pos ha]
      refine ⟨_, rfl, .agg _ _ (by simp; omega) fun j h1 h2 => ?_⟩
      simp only [List.length_take, List.length_drop] at h1
      simpa using hc (o + j) (by omega) (by omega)
    · have ha' : aggT e = false := by simpa using ha
      have hl := h1 ha'
      refine ⟨C[o]'(by omega), by simp [Go.part, run_aggT hu, ha', Array.getElem?_eq_getElem (show o < C.size by omega)], e, hu, ?_⟩
      rw [if_neg ha, hl]
      refine ⟨xs[o], ?_, hc o (by omega) (by omega)⟩
      rw [List.drop_eq_getElem_cons (by omega)]; rfl

/-- What is to be shown of a type. -/
def EqRun (P : Program) (μ : Mu) (ρ : Nat → Value) (L : LV) (w : World) (d' : Nat) (t : TypeId) (l : List LK) : Prop :=
  ∀ (xs ys : List AV) (b : Bool) (vx vy : Value), allEq l xs ys = some b → VC P μ ρ L w t xs vx → VC P μ ρ L w t ys vy → (Op.equalIn d' t vx vy).run P w = .ok b w

theorem eqFields_run {d d' : Nat} (hok : ∀ t l, leaves P d t = some l → EqRun P μ ρ L w d' t l) {xs ys : List AV} {A B : Array Value} (hA : VRel μ ρ L w (.agg xs) (.agg A)) (hB : VRel μ ρ L w (.agg ys) (.agg B)) :
    ∀ (fs : List Field) (o : Nat) (l : List LK) (b : Bool), leavesFs (leaves P d) fs o = some l → xs.length = o + l.length → ys.length = o + l.length →
      allEq l (xs.drop o) (ys.drop o) = some b → (Op.eqFields d' A B fs).run P w = .ok b w
  | [], o, l, b, hf, hx, hy, h => by
    simp only [leavesFs, Option.some.injEq] at hf
    subst hf
    rw [List.drop_of_length_le (by simp at hx; omega), List.drop_of_length_le (by simp at hy; omega)] at h
    simp only [allEq, Option.some.injEq] at h
    subst h
    simp [Op.eqFields]
  | f :: fs, o, l, b, hf, hx, hy, h => by
    simp only [leavesFs] at hf
    split at hf
    · rename_i hc
      obtain ⟨hname, rfl⟩ := hc
      simp only [Option.bind_eq_some_iff, Option.map_eq_some_iff] at hf
      obtain ⟨a, ha, l2, hl2, rfl⟩ := hf
      simp only [List.length_append] at hx hy
      obtain ⟨va, ra, ca⟩ := VC.part (P := P) hA ha (o := f.offset) (by omega)
      obtain ⟨vb, rb, cb⟩ := VC.part (P := P) hB ha (o := f.offset) (by omega)
      have hsx : xs.drop f.offset = (xs.drop f.offset).take a.length ++ xs.drop (f.offset + a.length) := by rw [← List.drop_drop, List.take_append_drop]
      have hsy : ys.drop f.offset = (ys.drop f.offset).take a.length ++ ys.drop (f.offset + a.length) := by rw [← List.drop_drop, List.take_append_drop]
      rw [hsx, hsy] at h
      obtain ⟨r1, r2, k1, k2, rfl⟩ := allEq_append _ _ _ _ _ _ _ (by simp; omega) (by simp; omega) h
      have hr := hok _ _ ha _ _ r1 va vb k1 ca cb
      have ih := eqFields_run hok hA hB fs (f.offset + a.length) l2 r2 hl2 (by omega) (by omega) k2
      cases r1
      · simp [Op.eqFields, hname, ra, rb, hr]
      · simp [Op.eqFields, hname, ra, rb, hr, ih]
    · cases hf

/-- An array's elements, from the i-th on. -/
def eqElems (d : Nat) (e : TypeId) (n : Nat) (xs ys : Array Value) : List Nat → Sem Bool
  | [] => pure true
  | i :: is => do
    let a ← part e xs (i * n)
    let b ← part e ys (i * n)
    let r ← Op.equalIn d e a b
    if (!r) = true then pure false else eqElems d e n xs ys is
theorem eqElems_run {d d' : Nat} {e : TypeId} {a : List LK} (ha : leaves P d e = some a) (hok : EqRun P μ ρ L w d' e a) {xs ys : List AV} {A B : Array Value} (hA : VRel μ ρ L w (.agg xs) (.agg A)) (hB : VRel μ ρ L w (.agg ys) (.agg B)) :
    ∀ (k i : Nat) (b : Bool), xs.length = (i + k) * a.length → ys.length = (i + k) * a.length →
      allEq (List.replicate k a).flatten (xs.drop (i * a.length)) (ys.drop (i * a.length)) = some b → (eqElems d' e a.length A B (List.range' i k)).run P w = .ok b w
  | 0, i, b, hx, hy, h => by
    rw [List.drop_of_length_le (by simp at hx; omega), List.drop_of_length_le (by simp at hy; omega)] at h
    simp only [List.replicate_zero, List.flatten_nil, allEq, Option.some.injEq] at h
    subst h
    simp [eqElems]
  | k + 1, i, b, hx, hy, h => by
    have hm : (i + (k + 1)) * a.length = i * a.length + a.length + k * a.length := by simp only [Nat.add_mul, Nat.one_mul]; omega
    have hle : i * a.length + a.length ≤ xs.length := by omega
    have hle' : i * a.length + a.length ≤ ys.length := by omega
    obtain ⟨va, ra, ca⟩ := VC.part (P := P) hA ha (o := i * a.length) hle
    obtain ⟨vb, rb, cb⟩ := VC.part (P := P) hB ha (o := i * a.length) hle'
    have hsx : xs.drop (i * a.length) = (xs.drop (i * a.length)).take a.length ++ xs.drop ((i + 1) * a.length) := by rw [show (i + 1) * a.length = i * a.length + a.length by rw [Nat.add_mul, Nat.one_mul], ← List.drop_drop, List.take_append_drop]
    have hsy : ys.drop (i * a.length) = (ys.drop (i * a.length)).take a.length ++ ys.drop ((i + 1) * a.length) := by rw [show (i + 1) * a.length = i * a.length + a.length by rw [Nat.add_mul, Nat.one_mul], ← List.drop_drop, List.take_append_drop]
    rw [hsx, hsy] at h
    simp only [List.replicate_succ, List.flatten_cons] at h
    obtain ⟨r1, r2, k1, k2, rfl⟩ := allEq_append _ _ _ _ _ _ _ (by simp; omega) (by simp; omega) h
    have hr := hok _ _ r1 va vb k1 ca cb
    have ih := eqElems_run ha hok hA hB k (i + 1) r2 (by rw [hx]; congr 1; omega) (by rw [hy]; congr 1; omega) k2
    simp only [List.range'_succ]
    cases r1
    · simp [eqElems, ra, rb, hr]
    · simp [eqElems, ra, rb, hr, ih]
theorem run_equalIn_array (d : Nat) (t e : TypeId) (len n : Nat) (xs ys : Array Value) (ht : P.underlying t = some (.array len e)) (hn : szOf P e = some n) :
    (Op.equalIn (d + 1) t (.agg xs) (.agg ys)).run P w = (eqElems d e n xs ys (List.range' 0 len)).run P w := by
  simp only [Op.equalIn, Sem.run_bind, run_underlying ht, Result.andThen_ok, run_szOf hn]
  rw [Std.Legacy.Range.forIn_eq_forIn_range']
  simp only [Std.Legacy.Range.size, Nat.sub_zero, Nat.add_sub_cancel, Nat.div_one]
  generalize List.range' 0 len = is
  induction is generalizing w with
  | nil => simp [eqElems]
  | cons f fs ih =>
    simp only [List.forIn_cons, eqElems, Sem.run_bind, Sem.run_ite]
    generalize (part e xs (f * n)).run P w = r1
    cases r1 with
    | ok a w1 =>
      simp only [Result.andThen_ok]
      generalize (part e ys (f * n)).run P w1 = r2
      cases r2 with
      | ok b w2 =>
        simp only [Result.andThen_ok]
        generalize (Op.equalIn d e a b).run P w2 = r3
        cases r3 with
        | ok r w3 =>
          cases r
          · simp only [Result.andThen_ok, Bool.not_false, if_true, Sem.run_pure]
          · simp only [Result.andThen_ok, Bool.not_true, Bool.false_eq_true, if_false, Sem.run_pure]
            exact ih
        | halt x w3 => simp [Result.andThen]
      | halt x w2 => simp [Result.andThen]
    | halt x w1 => simp [Result.andThen]

theorem eq_run : ∀ (d d' : Nat) (t : TypeId) (l : List LK), d ≤ d' → leaves P d t = some l → EqRun P μ ρ L w d' t l
  | 0, _, _, _, _, h => by cases h
  | d + 1, 0, _, _, hd, _ => by omega
  | d + 1, d' + 1, t, l, hd, h => by
    intro xs ys b vx vy hb hx hy
    obtain ⟨hlx, hly⟩ := allEq_len _ _ _ _ hb
    simp only [leaves, Option.bind_eq_some_iff] at h
    obtain ⟨l', h, h'⟩ := h
    split at h'
    · rename_i hs
      simp only [Option.some.injEq] at h'
      subst h'
      obtain ⟨e, hu, hx⟩ := hx
      obtain ⟨e', hu', hy⟩ := hy
      obtain rfl := Option.some.inj (hu.symm.trans hu')
      rw [hu] at h
      split at h
      · rename_i he
        simp only [Option.some.injEq] at he h
        subst he h
        simp only [aggT, Bool.false_eq_true, if_false] at hx hy
        obtain ⟨x, rfl, hx⟩ := hx
        obtain ⟨y, rfl, hy⟩ := hy
        cases x <;> cases y <;> simp [allEq, eqK] at hb
        cases hx; cases hy
        subst hb
        simpa using run_equalIn_bool' w d' t _ _ hu
      · rename_i k he
        simp only [Option.some.injEq] at he h
        subst he h
        simp only [aggT, Bool.false_eq_true, if_false] at hx hy
        obtain ⟨x, rfl, hx⟩ := hx
        obtain ⟨y, rfl, hy⟩ := hy
        cases x <;> cases y <;> simp [allEq, eqK] at hb
        cases hx; cases hy
        obtain ⟨rfl, hb⟩ := hb
        subst hb
        simpa using run_equalIn_int w d' t _ _ _ _ hu
      · rename_i he
        simp only [Option.some.injEq] at he h
        subst he h
        simp only [aggT, Bool.false_eq_true, if_false] at hx hy
        obtain ⟨x, rfl, hx⟩ := hx
        obtain ⟨y, rfl, hy⟩ := hy
        cases x <;> cases y <;> simp [allEq, eqK] at hb
        cases hx with
        | str s =>
          cases hy with
          | str s' =>
            subst hb
            rw [run_equalIn_string w d' t s s' hu, beq_bytes0]
      · rename_i fs he
        simp only [Option.some.injEq] at he
        subst he
        split at h
        · cases h
        · rename_i hst
          simp only [aggT, if_true] at hx hy
          obtain ⟨A, rfl, hx⟩ := hx
          obtain ⟨B, rfl, hy⟩ := hy
          have hfo : P.fieldsOf t = fs := by simp [Program.fieldsOf, hu]
          rw [run_equalIn_struct w d' t A B (by rw [hfo]; exact hu) (by simpa using hst), hfo]
          exact eqFields_run (d := d) (fun t l h => eq_run d d' t l (by omega) h) hx hy fs.toList 0 l' b h (by omega) (by omega) (by simpa using hb)
      · rename_i n e he
        simp only [Option.some.injEq] at he
        subst he
        simp only [aggT, if_true] at hx hy
        obtain ⟨A, rfl, hx⟩ := hx
        obtain ⟨B, rfl, hy⟩ := hy
        simp only [Option.map_eq_some_iff] at h
        obtain ⟨a, ha, rfl⟩ := h
        obtain ⟨_, _, hse, _⟩ := leaves_under ha
        rw [run_equalIn_array d' t e n a.length A B hu hse]
        have hfl : ((List.replicate n a).flatten).length = n * a.length := by simp
        exact eqElems_run ha (eq_run d d' e a (by omega) ha) hx hy n 0 b (by rw [hlx, hfl]; simp) (by rw [hly, hfl]; simp) (by simpa using hb)
      · cases h
    · cases h'
theorem aggEq_run {t : TypeId} {l : List LK} {xs ys : List AV} {b : Bool} {A B : Array Value} (hl : eqOf P t = some l) (hb : allEq l xs ys = some b) (hA : VRel μ ρ L w (.agg xs) (.agg A)) (hB : VRel μ ρ L w (.agg ys) (.agg B)) :
    (Op.equal t (.agg A) (.agg B)).run P w = .ok b w ∧ P.eqGuardType P.depth t = false := by
  unfold eqOf at hl
  split at hl
  · rename_i hc
    refine ⟨?_, hc.1⟩
    obtain ⟨d, hd, ha⟩ := Option.map_eq_some_iff.1 hc.2
    exact eq_run 8 10000 t l (by decide) hl xs ys b _ _ hb ⟨d, hd, by rw [if_pos ha]; exact ⟨A, rfl, hA⟩⟩ ⟨d, hd, by rw [if_pos ha]; exact ⟨B, rfl, hB⟩⟩
  · cases hl
end
end Go.Proofs.YtndoembhbfiokaaGreatDoor.Am
