/- The logic and the contracts that the laws stand on, part 13. -/
import Derived.Test.YtndoembhbfiokaaGreatDoorAal
import Derived.ChangeArms
import Derived.OpenShut
import Derived.DataReads
/- What an argument reads as, told as an abstract value. -/
set_option linter.unusedVariables false
set_option linter.unusedSimpArgs false
namespace Go.Proofs.YtndoembhbfiokaaGreatDoor.Am
open Go.RowKit

def AH.nil : AH := ⟨0, fun _ => .free, fun _ _ => rfl⟩
@[simp] theorem AH.nil_get (i : Nat) : AH.nil.get i = .free := rfl
abbrev μ0 : Mu := fun _ _ => none
abbrev L0 : LV := Live μ0 AH.nil
theorem L0_not (b : Nat) : ¬ L0 b := fun ⟨i, h⟩ => by simp [blk] at h
theorem rel0 {X : Ctx} {ρ : Nat → Value} {W : World} (h : X.ok ρ W) : WRel X μ0 ρ W AH.nil W :=
  ⟨h, Below.refl _ _, fun _ _ => rfl, fun i j b hi => by simp [blk] at hi⟩

/-- How much a reading holds: what is asked of whatever counts it. -/
structure Bulk (B : {H : Type} → DataW H → Nat) : Prop where
  one : ∀ {H : Type} (d : DataW H), 1 ≤ B d
  str : ∀ {H : Type} (s : List UInt8), s.length + 1 ≤ B (DataW.lit (H := H) (.string s))
  sl : ∀ {H : Type} (es sp : List (DataW H)), (es.map B).sum + 1 ≤ B (.slice es sp)
  agg : ∀ {H : Type} (ps : List (DataW H)), (ps.map B).sum + 1 ≤ B (.agg ps)

/-- Cells that stand for abstract cells where nothing is written yet. -/
abbrev CR (ρ : Nat → Value) (W : World) (cs : List AV) (C : List Value) : Prop := CRel μ0 ρ L0 W cs C.toArray
theorem CR.app {ρ : Nat → Value} {W : World} {a b : List AV} {A B : List Value} (h : CR ρ W a A) (k : CR ρ W b B) : CR ρ W (a ++ b) (A ++ B) := by
  have := CRel.append h k
  simpa [CR] using this
theorem CR.one {ρ : Nat → Value} {W : World} {a : AV} {A : Value} (h : VRel μ0 ρ L0 W a A) : CR ρ W [a] [A] :=
  ⟨rfl, fun j v hj => by
    rcases j with _ | j
    · simp at hj; subst hj; exact ⟨A, rfl, h⟩
    · simp at hj⟩

/-- A type's cells are told by a datum. -/
def Dec (B : {H : Type} → DataW H → Nat) (P : Program) (t : TypeId) {α : Type} (f : α → List AV) (n : Nat) (bk : α → Nat) (wf : α → Prop) : Prop :=
  P.cellsOf t = n ∧ (∀ x, wf x → (f x).length = n) ∧
  ∀ {H : Type} (enc : TypeId × Value → H) (W : World) (ρ : Nat → Value) (sp : Nat → Bool) (held : Bool) (fuel : Nat) (cs : List Value) (d : DataW H) (ps : List MemPlace),
    DataW.trod enc P W 0 sp held fuel t cs = some (d, ps) → ∃ x, CR ρ W (f x) cs ∧ bk x ≤ B d ∧ wf x

section
variable {B : {H : Type} → DataW H → Nat} {P : Program} {t e : TypeId}

theorem Dec.map {α β : Type} {f : α → List AV} {g : β → List AV} {n : Nat} {bk : α → Nat} {bk' : β → Nat} {wf : α → Prop} {wf' : β → Prop} (D : Dec B P t f n bk wf) (ψ : α → β)
    (hf : ∀ x, g (ψ x) = f x) (hb : ∀ x, bk' (ψ x) ≤ bk x) (hw : ∀ x, wf x → wf' (ψ x)) (hl : ∀ y, wf' y → (g y).length = n) : Dec B P t g n bk' wf' :=
  ⟨D.1, hl, fun enc W ρ sp held fuel cs d ps h => by
    obtain ⟨x, h1, h2, h3⟩ := D.2.2 enc W ρ sp held fuel cs d ps h
    exact ⟨ψ x, by rw [hf]; exact h1, Nat.le_trans (hb x) h2, hw x h3⟩⟩

theorem Dec.int (hB : Bulk B) {k : IntKind} (ht : P.underlying t = some (.int k)) (hc : P.cellsOf t = 1) : Dec B P t (fun n : Int => [.int k n]) 1 (fun _ => 1) (fun n => (Lit.int k n).wf = true) :=
  ⟨hc, fun _ _ => rfl, fun enc W ρ sp held fuel cs d ps h => by
    obtain ⟨n, rfl, hx, hw⟩ := DataW.trod_int ht h
    exact ⟨n, CR.one (.int k n), hB.one _, hw⟩⟩
theorem Dec.u8 (hB : Bulk B) (ht : P.underlying t = some (.int .u8)) (hc : P.cellsOf t = 1) : Dec B P t (fun b : UInt8 => [encB b]) 1 (fun _ => 1) (fun _ => True) :=
  ⟨hc, fun _ _ => rfl, fun enc W ρ sp held fuel cs d ps h => by
    obtain ⟨n, rfl, hx, hw⟩ := DataW.trod_int ht h
    have hw' : 0 ≤ n ∧ n < 256 := by simp [Lit.wf, IntKind.min, IntKind.max, IntKind.signed, IntKind.bits] at hw; omega
    refine ⟨UInt8.ofNat n.toNat, ?_, hB.one _, trivial⟩
    have : encB (UInt8.ofNat n.toNat) = .int .u8 n := by
      simp only [encB, UInt8.toNat_ofNat']
      congr 1
      omega
    show CR ρ W [encB _] _
    rw [this]
    exact CR.one (.int .u8 n)⟩
theorem Dec.bool (hB : Bulk B) (ht : P.underlying t = some .bool) (hc : P.cellsOf t = 1) : Dec B P t (fun b : Bool => [.bool b]) 1 (fun _ => 1) (fun _ => True) :=
  ⟨hc, fun _ _ => rfl, fun enc W ρ sp held fuel cs d ps h => by
    obtain ⟨b, rfl, hx⟩ := DataW.trod_bool ht h
    exact ⟨b, CR.one (.bool b), hB.one _, trivial⟩⟩
theorem Dec.str (hB : Bulk B) (ht : P.underlying t = some .string) (hc : P.cellsOf t = 1) : Dec B P t (fun s : List UInt8 => [.str s]) 1 (fun s => s.length + 1) (fun _ => True) :=
  ⟨hc, fun _ _ => rfl, fun enc W ρ sp held fuel cs d ps h => by
    obtain ⟨s, rfl, hx, _⟩ := DataW.trod_string ht h
    simp only [Prod.mk.injEq] at hx
    refine ⟨s.data.toList, CR.one (.str s), ?_, trivial⟩
    rw [hx.1]; exact hB.str _⟩

theorem sum_getElem_le {α : Type} (f : α → Nat) : ∀ (l : List α) (k : List Nat), l.length = k.length → (∀ i (h : i < l.length) (h' : i < k.length), f l[i] ≤ k[i]) → (l.map f).sum ≤ k.sum
  | [], [], _, _ => by simp
  | a :: l, b :: k, hl, h => by
    have h0 := h 0 (by simp) (by simp)
    have := sum_getElem_le f l k (by simpa using hl) (fun i h1 h2 => by have := h (i + 1) (by simpa using h1) (by simpa using h2); simpa using this)
    simp only [List.map_cons, List.sum_cons]
    simp at h0
    omega
  | [], _ :: _, hl, _ => by simp at hl
  | _ :: _, [], hl, _ => by simp at hl

theorem Dec.slice (hB : Bulk B) {α : Type} {f : α → List AV} {n : Nat} {bk : α → Nat} {wf : α → Prop} (ht : P.underlying t = some (.slice e)) (hc : P.cellsOf t = 1) (D : Dec B P e f n bk wf) (hn : 0 < n)
    (g : α → AV) (hg : ∀ x, (g x).cells = f x) : Dec B P t (fun xs : List α => [.fsl (xs.map g)]) 1 (fun xs => (xs.map bk).sum + 1) (fun xs => ∀ x ∈ xs, wf x) :=
  ⟨hc, fun _ _ => rfl, fun {H} enc W ρ sp held fuel cs d ps h => by
    obtain ⟨hcn, hlen, hD⟩ := D
    rcases DataW.trod_slice ht h with ⟨rfl, hx⟩ | ⟨a, len, cap, elems, rest, m, _, rfl, hx, hb, hle, hcm, hel, hat, _, _⟩
    · simp only [Prod.mk.injEq] at hx
      exact ⟨[], CR.one (.fsl0 none 0), by simpa using hB.one d, by simp⟩
    · simp only [Prod.mk.injEq] at hx
      have each : ∀ i, i < len → ∃ (C : List Value) (y : DataW H × List MemPlace) (x : α), elems[i]? = some y ∧ W.cells? 0 (a.add (i * n)) n = some C ∧ CR ρ W (f x) C ∧ bk x ≤ B y.1 ∧ wf x := fun i hi => by
        have h1 := hat i hi
        rw [hcn] at h1
        obtain ⟨y, hy⟩ : ∃ y, elems[i]? = some y := ⟨elems[i], List.getElem?_eq_getElem (by omega)⟩
        rw [hy, Option.bind_eq_some_iff] at h1
        obtain ⟨C, hC, hy2⟩ := h1
        obtain ⟨x, h2, h3, h4⟩ := hD enc W ρ sp held m C y.1 y.2 hy2
        exact ⟨C, y, x, hy, hC, h2, h3, h4⟩
      have hx' : ∀ i (hi : i < len), ∃ x : α, (∃ (C : List Value) (y : DataW H × List MemPlace), elems[i]? = some y ∧ W.cells? 0 (a.add (i * n)) n = some C ∧ CR ρ W (f x) C ∧ bk x ≤ B y.1 ∧ wf x) := fun i hi => by
        obtain ⟨C, y, x, h⟩ := each i hi
        exact ⟨x, C, y, h⟩
      obtain ⟨xs, hxl, hxi⟩ : ∃ xs : List α, xs.length = len ∧ ∀ i (hi : i < len) (hi' : i < xs.length), ∃ (C : List Value) (y : DataW H × List MemPlace), elems[i]? = some y ∧ W.cells? 0 (a.add (i * n)) n = some C ∧ CR ρ W (f xs[i]) C ∧ bk xs[i] ≤ B y.1 ∧ wf xs[i] := by
        refine ⟨(List.range len).attach.map fun i => (hx' i.1 (List.mem_range.1 i.2)).choose, by simp, fun i hi hi' => ?_⟩
        have := (hx' i hi).choose_spec
        simpa using this
      have hwf : ∀ x ∈ xs, wf x := fun x hx => by
        obtain ⟨i, hi, rfl⟩ := List.getElem_of_mem hx
        obtain ⟨_, _, _, _, _, _, h⟩ := hxi i (by omega) hi
        exact h
      refine ⟨xs, ?_, ?_, hwf⟩
      · rcases Nat.eq_zero_or_pos len with h0 | hpos
        · subst h0
          obtain rfl : xs = [] := List.eq_nil_of_length_eq_zero hxl
          exact CR.one (.fsl0 (some a) cap)
        · obtain ⟨C0, y0, hy0, hC0, _⟩ := hxi 0 hpos (by omega)
          obtain ⟨_, hl0, hg0⟩ := World.cells?_some hC0
          have hlt : a.block < W.heap.size ∧ a.spot = none := by
            have h1 := hg0 0 hn
            have h2 : C0[0]? = some (C0[0]'(by omega)) := List.getElem?_eq_getElem (by omega)
            rw [h2] at h1
            refine ⟨by simpa [Addr.add] using World.block_lt_of_cell? W _ h1, ?_⟩
            cases hs : a.spot with
            | none => rfl
            | some k =>
              exfalso
              have hsp : ((a.add (0 * n)).add 0).spot = some k := by simp [Addr.add, hs]
              simp only [World.cell?, hsp] at h1
              split at h1
              · simp at h1
              · cases h1
          obtain ⟨hblk, hspot⟩ := hlt
          obtain ⟨b, o, s⟩ := a
          simp only at hspot hblk
          subst hspot
          have hcell : ∀ j (hj : j < len) (hj' : j < xs.length) q (hq : q < n), ∃ c, W.cell? ⟨b, o + j * n + q, none⟩ = some c ∧ ∀ (h : q < ((g xs[j]).cells).length), VRel μ0 ρ L0 W (((g xs[j]).cells)[q]) c := fun j hj hj' q hq => by
            obtain ⟨C, y, _, hC, hCR, _, hw⟩ := hxi j hj hj'
            obtain ⟨_, hl, hget⟩ := World.cells?_some hC
            have h1 := hget q hq
            rw [List.getElem?_eq_getElem (by omega)] at h1
            refine ⟨C[q]'(by omega), by rw [Addr.add_lit, Addr.add_lit] at h1; exact h1, fun h => ?_⟩
            have hfq : (f xs[j])[q]? = some (((g xs[j]).cells)[q]) := by rw [← hg]; exact List.getElem?_eq_getElem h
            obtain ⟨c, hc, hr⟩ := hCR.2 q _ hfq
            have : C[q]'(by omega) = c := by
              have h3 : C[q]? = some c := by simpa using hc
              rw [List.getElem?_eq_getElem (by omega)] at h3
              exact Option.some.inj h3
            rw [this]; exact hr
          have hsz : ∀ j (h : j < (xs.map g).length), (((xs.map g)[j]).cells).length = n := fun j h => by
            simp only [List.length_map] at h
            simp only [List.getElem_map, hg]
            exact hlen _ (hwf _ (List.getElem_mem h))
          have hlen2 : (xs.map g).length = len := by simp [hxl]
          have key : VRel μ0 ρ L0 W (.fsl (xs.map g)) (.slice (some ⟨b, o, none⟩) (xs.map g).length cap) := by
            refine .fsl (xs.map g) b o n cap (fun j q => (W.cell? ⟨b, o + j * n + q, none⟩).getD undef) (L0_not b) hblk (by omega) hsz (fun j hj q hq => ?_) (fun j hj q hq => ?_)
            · obtain ⟨c, hc, _⟩ := hcell j (by omega) (by omega) q hq
              simp [hc]
            · have hq' : q < n := by rw [← hsz j hj]; exact hq
              obtain ⟨c, hc, hr⟩ := hcell j (by omega) (by omega) q hq'
              simp only [hc, Option.getD_some, List.getElem_map]
              exact hr (by simpa using hq)
          rw [hlen2] at key
          exact CR.one key
      · rw [hx.1]
        refine Nat.le_trans ?_ (hB.sl _ _)
        have : (xs.map bk).sum ≤ ((elems.map (·.1)).map B).sum := by
          refine sum_getElem_le bk xs _ (by simp; omega) fun i h1 h2 => ?_
          obtain ⟨C, y, hy, _, _, h3, _⟩ := hxi i (by omega) h1
          have hi : i < elems.length := by omega
          rw [List.getElem?_eq_getElem hi] at hy
          simp only [List.getElem_map]
          rw [Option.some.inj hy]
          exact h3
        show (xs.map bk).sum + 1 ≤ _
        omega⟩

/-- A struct's fields, one behind the other. -/
def DecFs (B : {H : Type} → DataW H → Nat) (P : Program) (fs : List Field) (o m : Nat) {α : Type} (f : α → List AV) (bk : α → Nat) (wf : α → Prop) : Prop :=
  (∀ x, wf x → (f x).length = m) ∧
  ∀ {H : Type} (enc : TypeId × Value → H) (W : World) (ρ : Nat → Value) (sp : Nat → Bool) (held : Bool) (fuel : Nat) (cs : List Value) (xs : List (DataW H × List MemPlace)), xs.length = fs.length → cs.length = o + m →
    (∀ (i : Nat) (fl : Field), fs[i]? = some fl → DataW.trod enc P W 0 sp held fuel fl.type ((cs.drop fl.offset).take (P.cellsOf fl.type)) = xs[i]?) →
    ∃ x, CR ρ W (f x) (cs.drop o) ∧ bk x ≤ (xs.map fun y => B y.1).sum ∧ wf x
theorem DecFs.nil (o : Nat) : DecFs B P [] o 0 (fun _ : Unit => []) (fun _ => 0) (fun _ => True) :=
  ⟨fun _ _ => rfl, fun enc W ρ sp held fuel cs xs _ hl _ => ⟨(), by rw [List.drop_of_length_le (by omega)]; exact ⟨rfl, fun j v h => by simp at h⟩, Nat.zero_le _, trivial⟩⟩
theorem DecFs.cons {α β : Type} {f : α → List AV} {g : β → List AV} {n m o : Nat} {b1 : α → Nat} {b2 : β → Nat} {w1 : α → Prop} {w2 : β → Prop} {fl : Field} {fs : List Field} (D : Dec B P fl.type f n b1 w1) (ho : fl.offset = o)
    (R : DecFs B P fs (o + n) m g b2 w2) : DecFs B P (fl :: fs) o (n + m) (fun x : α × β => f x.1 ++ g x.2) (fun x => b1 x.1 + b2 x.2) (fun x => w1 x.1 ∧ w2 x.2) :=
  ⟨fun x h => by simp [D.2.1 _ h.1, R.1 _ h.2], fun {H} enc W ρ sp held fuel cs xs hxl hl h => by
    obtain ⟨hcn, hlen, hD⟩ := D
    match xs, hxl with
    | y :: xs, hxl =>
      have h0 := h 0 fl rfl
      rw [hcn, ho] at h0
      obtain ⟨x, h1, h2, h3⟩ := hD enc W ρ sp held fuel _ y.1 y.2 h0
      obtain ⟨z, k1, k2, k3⟩ := R.2 enc W ρ sp held fuel cs xs (by simpa using hxl) (by omega) (fun i fl' hi => by have := h (i + 1) fl' (by simpa using hi); simpa using this)
      refine ⟨(x, z), ?_, by simp only [List.map_cons, List.sum_cons]; exact Nat.add_le_add h2 k2, h3, k3⟩
      have : cs.drop o = (cs.drop o).take n ++ cs.drop (o + n) := by rw [← List.drop_drop, List.take_append_drop]
      rw [this]
      exact h1.app k1⟩
theorem Dec.struct (hB : Bulk B) {α : Type} {f : α → List AV} {n : Nat} {bk : α → Nat} {wf : α → Prop} {fs : Array Field} (ht : P.underlying t = some (.struct fs)) (hc : P.cellsOf t = n) (R : DecFs B P fs.toList 0 n f bk wf) :
    Dec B P t f n (fun x => bk x + 1) wf :=
  ⟨hc, R.1, fun enc W ρ sp held fuel cs d ps h => by
    obtain ⟨xs, m, _, hx, hl, hxl, hat⟩ := DataW.trod_struct ht h
    simp only [Prod.mk.injEq] at hx
    obtain ⟨x, h1, h2, h3⟩ := R.2 enc W ρ sp held m cs xs (by simpa using hxl) (by omega) (fun i fl hi => hat i fl (by simpa using hi))
    refine ⟨x, by simpa using h1, ?_, h3⟩
    rw [hx.1]
    have := hB.agg (xs.map (·.1))
    simp only [List.map_map, Function.comp_def] at this
    exact Nat.le_trans (Nat.succ_le_succ h2) this⟩

/-- Arrays of one cell an element. -/
theorem Dec.array (hB : Bulk B) {α : Type} {f : α → List AV} {bk : α → Nat} {wf : α → Prop} {n : Nat} (ht : P.underlying t = some (.array n e)) (hc : P.cellsOf t = n) (D : Dec B P e f 1 bk wf) (g : α → AV) (hg : ∀ x, f x = [g x]) :
    Dec B P t (fun xs : List α => xs.map g) n (fun xs => (xs.map bk).sum + 1) (fun xs => xs.length = n ∧ ∀ x ∈ xs, wf x) :=
  ⟨hc, fun xs h => by simp [h.1], fun {H} enc W ρ sp held fuel cs d ps h => by
    obtain ⟨ys, m, _, hx, hl, hyl, hat⟩ := DataW.trod_array ht h
    obtain ⟨hcn, hlen, hD⟩ := D
    simp only [Prod.mk.injEq] at hx
    have each : ∀ i (hi : i < n), ∃ x : α, ∃ (c : Value) (y : DataW H × List MemPlace), cs[i]? = some c ∧ ys[i]? = some y ∧ VRel μ0 ρ L0 W (g x) c ∧ bk x ≤ B y.1 ∧ wf x := fun i hi => by
      have h1 := hat i hi
      rw [hcn, Nat.mul_one] at h1
      have hc1 : (cs.drop i).take 1 = [cs[i]'(by omega)] := by
        rw [List.drop_eq_getElem_cons (by omega)]; rfl
      rw [hc1] at h1
      obtain ⟨y, hy⟩ : ∃ y, ys[i]? = some y := ⟨ys[i], List.getElem?_eq_getElem (by omega)⟩
      rw [hy] at h1
      obtain ⟨x, h2, h3, h4⟩ := hD enc W ρ sp held m _ y.1 y.2 h1
      refine ⟨x, _, y, List.getElem?_eq_getElem (by omega), hy, ?_, h3, h4⟩
      rw [hg] at h2
      obtain ⟨c, hc, hr⟩ := h2.2 0 _ rfl
      simp at hc
      rw [hc]; exact hr
    obtain ⟨xs, hxl, hxi⟩ : ∃ xs : List α, xs.length = n ∧ ∀ i (hi : i < n) (hi' : i < xs.length), ∃ (c : Value) (y : DataW H × List MemPlace), cs[i]? = some c ∧ ys[i]? = some y ∧ VRel μ0 ρ L0 W (g xs[i]) c ∧ bk xs[i] ≤ B y.1 ∧ wf xs[i] := by
      refine ⟨(List.range n).attach.map fun i => (each i.1 (List.mem_range.1 i.2)).choose, by simp, fun i hi hi' => ?_⟩
      have := (each i hi).choose_spec
      simpa using this
    refine ⟨xs, ⟨by simp; omega, fun j v hj => ?_⟩, ?_, hxl, fun x hx => ?_⟩
    · have hjl : j < xs.length := by
        have := (List.getElem?_eq_some_iff.1 hj).1
        simpa using this
      obtain ⟨c, y, h1, _, h3, _⟩ := hxi j (by omega) hjl
      have : v = g xs[j] := by
        rw [List.getElem?_map, List.getElem?_eq_getElem hjl] at hj
        simpa using hj.symm
      subst this
      exact ⟨c, by simpa using h1, h3⟩
    · rw [hx.1]
      refine Nat.le_trans ?_ (hB.agg _)
      have : (xs.map bk).sum ≤ ((ys.map (·.1)).map B).sum := by
        refine sum_getElem_le bk xs _ (by simp; omega) fun i h1 h2 => ?_
        obtain ⟨c, y, _, hy, _, h3, _⟩ := hxi i (by omega) h1
        have hi : i < ys.length := by omega
        rw [List.getElem?_eq_getElem hi] at hy
        simp only [List.getElem_map]
        rw [Option.some.inj hy]
        exact h3
      show (xs.map bk).sum + 1 ≤ _
      omega
    · obtain ⟨i, hi, rfl⟩ := List.getElem_of_mem hx
      obtain ⟨_, _, _, _, _, _, h⟩ := hxi i (by omega) hi
      exact h⟩
end
end Go.Proofs.YtndoembhbfiokaaGreatDoor.Am
set_option linter.unusedVariables false
namespace Go.Proofs.YtndoembhbfiokaaGreatDoor.Am
open Go Go.RowKit

/-! ### Rows that a call's arguments read alone, frozen ahead of the call -/
def FrzL (id ver : Nat) (zs : List AV) : List AV → List AV → Prop
  | [], [] => True
  | x :: l, y :: m => Frz id ver zs x y ∧ FrzL id ver zs l m
  | _, _ => False
theorem FrzL.get {id ver : Nat} {zs : List AV} : ∀ {l m : List AV}, FrzL id ver zs l m → l.length = m.length ∧ ∀ (j : Nat) (y : AV), m[j]? = some y → ∃ x, l[j]? = some x ∧ Frz id ver zs x y
  | [], [], _ => ⟨rfl, fun j y h => by simp at h⟩
  | x :: l, y :: m, h => by
    obtain ⟨h1, h2⟩ := h
    obtain ⟨h3, h4⟩ := FrzL.get h2
    refine ⟨by simp [h3], fun j z hz => ?_⟩
    cases j with
    | zero => simp at hz; subst hz; exact ⟨x, by simp, h1⟩
    | succ j => simp at hz ⊢; exact h4 j z hz
  | [], _ :: _, h => h.elim
  | _ :: _, [], h => h.elim
theorem ACalls.frz {X : Ctx} {f : FuncId} {args : List AV} {H : AH} {Q : AV → AH → Prop} (id ver sz : Nat) (zs : List AV) (args' : List AV) (hH : H.get id = .row zs sz ver) (hf : FrzL id ver zs args args') (h : ACalls X f args' (H.put id .dead) Q) : ACalls X f args H Q :=
  ⟨h.1, fun μ ρ w0 w A hW hA => by
    obtain ⟨h1, h2, h3⟩ := freeze hW hH
    obtain ⟨hl, hg⟩ := hf.get
    have hA' : CRel μ ρ (Live μ (H.put id .dead)) w args' A := by
      refine ⟨by rw [hA.1, hl], fun j y hy => ?_⟩
      obtain ⟨x, hx, hxy⟩ := hg j y hy
      obtain ⟨c, hc, hv⟩ := hA.2 j x hx
      exact ⟨c, hc, h3 _ _ hxy _ hv⟩
    refine Calls.mono (h.2 μ ρ w0 w A h2 hA') fun e w' ⟨c, v, H', μ', k1, k2, k3, k4⟩ => ⟨c, v, H', μ', k1, k2, h1.trans k3, k4⟩⟩
def LeL : List AV → List AV → Prop
  | [], [] => True
  | x :: l, y :: m => Le x y ∧ LeL l m
  | _, _ => False
theorem LeL.get : ∀ {l m : List AV}, LeL l m → l.length = m.length ∧ ∀ (j : Nat) (y : AV), m[j]? = some y → ∃ x, l[j]? = some x ∧ Le x y
  | [], [], _ => ⟨rfl, fun j y h => by simp at h⟩
  | x :: l, y :: m, h => by
    obtain ⟨h1, h2⟩ := h
    obtain ⟨h3, h4⟩ := LeL.get h2
    refine ⟨by simp [h3], fun j z hz => ?_⟩
    cases j with
    | zero => simp at hz; subst hz; exact ⟨x, by simp, h1⟩
    | succ j => simp at hz ⊢; exact h4 j z hz
  | [], _ :: _, h => h.elim
  | _ :: _, [], h => h.elim
theorem ACalls.le {X : Ctx} {f : FuncId} {args : List AV} {H : AH} {Q : AV → AH → Prop} (args' : List AV) (hf : LeL args args') (h : ACalls X f args' H Q) : ACalls X f args H Q :=
  ⟨h.1, fun μ ρ w0 w A hW hA => by
    obtain ⟨hl, hg⟩ := hf.get
    refine h.2 μ ρ w0 w A hW ⟨by rw [hA.1, hl], fun j y hy => ?_⟩
    obtain ⟨x, hx, hxy⟩ := hg j y hy
    obtain ⟨c, hc, hv⟩ := hA.2 j x hx
    exact ⟨c, hc, hxy _ _ _ _ _ hv⟩⟩
/-- A whole live slice. -/
theorem Frz.all {id ver len : Nat} {zs : List AV} (h : zs.length = len) : Frz id ver zs (.sl id ver 0 len) (.fsl zs) := by
  have := Frz.sl (id := id) (ver := ver) (zs := zs) 0 len (by omega)
  rwa [List.drop_zero, List.take_of_length_le (by omega)] at this
end Go.Proofs.YtndoembhbfiokaaGreatDoor.Am
