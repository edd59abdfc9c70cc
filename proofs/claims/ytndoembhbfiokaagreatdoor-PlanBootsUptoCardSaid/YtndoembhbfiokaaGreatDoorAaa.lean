/- The logic and the contracts that the laws stand on, part 1. -/
import Derived.Calls
import Derived.Orders
import Derived.Below
/- An abstract view of the model's values and memory: memory that nobody writes any more is told as data. -/
set_option linter.unusedVariables false
namespace Go.Proofs.YtndoembhbfiokaaGreatDoor.Am
open Go.RowKit

/-- Abstract values. -/
inductive AV where
  | any
  | bool (b : Bool)
  | int (k : IntKind) (n : Int)
  | str (l : List UInt8)
  | nilp
  | ptr (id ver i off : Nat)
  | eptr (xs : List AV) (i off : Nat)
  | opq (k : Nat)
  | gptr (g : Nat)
  | sl (id ver off len : Nat)
  | asl (id ver i off len : Nat)
  | fsl (xs : List AV)
  | csl (xs : List AV)
  | func (fn : Fn) (first captured : List AV)
  | nilf
  | iface (t : TypeId) (v : AV)
  | nili
  | agg (cs : List AV)
  | tup (vs : List AV)
  | map (id : Nat)
  deriving Inhabited

def AV.cells : AV → List AV
  | .agg cs => cs
  | v => [v]

/-- What an identity of the abstract heap stands for. -/
inductive Slot where
  | free
  | dead
  | row (xs : List AV) (sz ver : Nat)
  | mapo (es : List (AV × AV))
  deriving Inhabited

structure AH where
  nx : Nat
  get : Nat → Slot
  wf : ∀ i, nx ≤ i → get i = .free
@[simp] theorem AH.fresh (H : AH) : H.get H.nx = .free := H.wf _ (Nat.le_refl _)
instance : CoeFun AH fun _ => Nat → Slot := ⟨AH.get⟩
def AH.put (H : AH) (i : Nat) (s : Slot) : AH :=
  ⟨if i < H.nx then H.nx else i + 1, fun j => if j = i then s else H.get j, fun j hj => by
    split at hj <;> (rw [if_neg (by omega)]; exact H.wf j (by omega))⟩
def AH.upd (H : AH) : List (Nat × Slot) → AH
  | [] => H
  | (i, s) :: l => AH.upd (H.put i s) l

abbrev Mu := Nat → Nat → Option (Nat × Nat)

/-- The block of a live identity. -/
def blk (μ : Mu) (i : Nat) : Slot → Option Nat
  | .row _ _ ver => (μ i ver).map (·.1)
  | .mapo _ => (μ i 0).map (·.1)
  | _ => none
/-- The blocks that may still be written, the identities in use. -/
structure LV where
  blk : Nat → Prop
  ids : Nat → Prop
instance : CoeFun LV fun _ => Nat → Prop := ⟨LV.blk⟩
def Live (μ : Mu) (H : AH) : LV := ⟨fun b => ∃ i, blk μ i (H i) = some b, fun i => H i ≠ .free⟩

/-- What an abstract value says of a value. -/
inductive VRel (μ : Mu) (ρ : Nat → Value) (L : LV) (w : World) : AV → Value → Prop
  | any (v : Value) : VRel μ ρ L w .any v
  | bool (b : Bool) : VRel μ ρ L w (.bool b) (.bool b)
  | int (k : IntKind) (n : Int) : VRel μ ρ L w (.int k n) (.int k n)
  | str (s : ByteArray) : VRel μ ρ L w (.str s.data.toList) (.string s)
  | nilp : VRel μ ρ L w .nilp (.pointer none)
  | ptr (id ver i off b sz : Nat) (h : μ id ver = some (b, sz)) : VRel μ ρ L w (.ptr id ver i off) (.pointer (some ⟨b, i * sz + off, none⟩))
  | eptr (xs : List AV) (i off b o sz : Nat) (f : Nat → Nat → Value) (hL : ¬ L b) (hb : b < w.heap.size)
      (hz : ∀ j (h : j < xs.length), (xs[j].cells).length = sz)
      (hc : ∀ j, j < xs.length → ∀ q, q < sz → w.cell? ⟨b, o + j * sz + q, none⟩ = some (f j q))
      (hr : ∀ j (h : j < xs.length) q (hq : q < (xs[j].cells).length), VRel μ ρ L w ((xs[j].cells)[q]) (f j q)) :
      VRel μ ρ L w (.eptr xs i off) (.pointer (some ⟨b, o + i * sz + off, none⟩))
  | opq (k : Nat) : VRel μ ρ L w (.opq k) (ρ k)
  | gptr (g : Nat) : VRel μ ρ L w (.gptr g) (.pointer (some ⟨g, 0, none⟩))
  | sl0 (id ver off : Nat) (a : Option Addr) (hU : L.ids id) : VRel μ ρ L w (.sl id ver off 0) (.slice a 0 0)
  | sl (id ver off len b sz cap : Nat) (e : TypeId) (n : Nat) (h : μ id ver = some (b, sz)) (hlen : len ≤ cap) (hs : w.shape? b = some (e, n)) (hcap : (off + cap) * sz ≤ n) :
      VRel μ ρ L w (.sl id ver off len) (.slice (some ⟨b, off * sz, none⟩) len cap)
  | asl (id ver i off len b sz cap : Nat) (h : μ id ver = some (b, sz)) (hlen : len ≤ cap) (hcap : off + cap ≤ sz) :
      VRel μ ρ L w (.asl id ver i off len) (.slice (some ⟨b, i * sz + off, none⟩) len cap)
  | fsl0 (a : Option Addr) (cap : Nat) : VRel μ ρ L w (.fsl []) (.slice a 0 cap)
  | fsl (xs : List AV) (b o sz cap : Nat) (f : Nat → Nat → Value) (hL : ¬ L b) (hb : b < w.heap.size) (hcap : xs.length ≤ cap)
      (hz : ∀ j (h : j < xs.length), (xs[j].cells).length = sz)
      (hc : ∀ j, j < xs.length → ∀ q, q < sz → w.cell? ⟨b, o + j * sz + q, none⟩ = some (f j q))
      (hr : ∀ j (h : j < xs.length) q (hq : q < (xs[j].cells).length), VRel μ ρ L w ((xs[j].cells)[q]) (f j q)) :
      VRel μ ρ L w (.fsl xs) (.slice (some ⟨b, o, none⟩) xs.length cap)
  | csl0 (a : Option Addr) : VRel μ ρ L w (.csl []) (.slice a 0 0)
  | csl (xs : List AV) (b o sz : Nat) (f : Nat → Nat → Value) (hL : ¬ L b) (hb : b < w.heap.size)
      (hz : ∀ j (h : j < xs.length), (xs[j].cells).length = sz)
      (hc : ∀ j, j < xs.length → ∀ q, q < sz → w.cell? ⟨b, o + j * sz + q, none⟩ = some (f j q))
      (hr : ∀ j (h : j < xs.length) q (hq : q < (xs[j].cells).length), VRel μ ρ L w ((xs[j].cells)[q]) (f j q)) :
      VRel μ ρ L w (.csl xs) (.slice (some ⟨b, o, none⟩) xs.length xs.length)
  | func (fn : Fn) (fs cs : List AV) (F C : Array Value) (hF : F.size = fs.length) (hC : C.size = cs.length)
      (hf : ∀ j (h : j < fs.length) (h' : j < F.size), VRel μ ρ L w fs[j] F[j]) (hc : ∀ j (h : j < cs.length) (h' : j < C.size), VRel μ ρ L w cs[j] C[j]) :
      VRel μ ρ L w (.func fn fs cs) (.func fn F C)
  | nilf : VRel μ ρ L w .nilf .nilFunc
  | iface (t : TypeId) (v : AV) (c : Value) (h : VRel μ ρ L w v c) : VRel μ ρ L w (.iface t v) (.iface t c)
  | nili : VRel μ ρ L w .nili .nilIface
  | agg (cs : List AV) (C : Array Value) (hC : C.size = cs.length) (hc : ∀ j (h : j < cs.length) (h' : j < C.size), VRel μ ρ L w cs[j] C[j]) :
      VRel μ ρ L w (.agg cs) (.agg C)
  | tup (cs : List AV) (C : Array Value) (hC : C.size = cs.length) (hc : ∀ j (h : j < cs.length) (h' : j < C.size), VRel μ ρ L w cs[j] C[j]) :
      VRel μ ρ L w (.tup cs) (.tuple C)
  | map (id b sz : Nat) (h : μ id 0 = some (b, sz)) : VRel μ ρ L w (.map id) (.map (some b))

/-- From one world to a later one, as far as values that are held elsewhere are concerned. -/
structure Ext (μ : Mu) (L : LV) (w : World) (μ' : Mu) (L' : LV) (w' : World) : Prop where
  mu : ∀ i v x, μ i v = some x → μ' i v = some x
  size : w.heap.size ≤ w'.heap.size
  same : ∀ b, b < w.heap.size → ¬ L b → w'.heap[b]? = w.heap[b]?
  shape : ∀ b, b < w.heap.size → w'.shape? b = w.shape? b
  live : ∀ b, L' b → L b ∨ w.heap.size ≤ b
  ids : ∀ i, L.ids i → L'.ids i

theorem Ext.refl (μ : Mu) (L : LV) (w : World) : Ext μ L w μ L w :=
  ⟨fun _ _ _ h => h, Nat.le_refl _, fun _ _ _ => rfl, fun _ _ => rfl, fun _ h => .inl h, fun _ h => h⟩

theorem Ext.trans {μ μ' μ'' : Mu} {L L' L'' : LV} {w w' w'' : World} (h : Ext μ L w μ' L' w') (k : Ext μ' L' w' μ'' L'' w'') : Ext μ L w μ'' L'' w'' where
  mu := fun i v x e => k.mu i v x (h.mu i v x e)
  size := Nat.le_trans h.size k.size
  same := fun b hb hL => by
    rw [k.same b (Nat.lt_of_lt_of_le hb h.size) (fun h' => (h.live b h').elim hL (fun h'' => by omega)), h.same b hb hL]
  shape := fun b hb => by rw [k.shape b (Nat.lt_of_lt_of_le hb h.size), h.shape b hb]
  live := fun b hb => (k.live b hb).elim (fun h' => h.live b h') (fun h' => .inr (Nat.le_trans h.size h'))
  ids := fun i hi => k.ids i (h.ids i hi)

theorem cell?_congr {w w' : World} {b : Nat} (h : w'.heap[b]? = w.heap[b]?) (o : Nat) (s : Option Nat) : w'.cell? ⟨b, o, s⟩ = w.cell? ⟨b, o, s⟩ := by
  simp only [World.cell?, h]

theorem VRel.mono {μ μ' : Mu} {ρ : Nat → Value} {L L' : LV} {w w' : World} (x : Ext μ L w μ' L' w') {v : AV} {c : Value} (h : VRel μ ρ L w v c) : VRel μ' ρ L' w' v c := by
  induction h with
  | any v => exact .any v
  | bool b => exact .bool b
  | int k n => exact .int k n
  | str s => exact .str s
  | nilp => exact .nilp
  | ptr id ver i off b sz h => exact .ptr id ver i off b sz (x.mu _ _ _ h)
  | eptr xs i off b o sz f hL hb hz hc hr ih =>
    exact .eptr xs i off b o sz f (fun h' => (x.live b h').elim hL (fun h'' => by omega)) (Nat.lt_of_lt_of_le hb x.size) hz
      (fun j hj q hq => by rw [cell?_congr (x.same b hb hL)]; exact hc j hj q hq) ih
  | opq k => exact .opq k
  | gptr g => exact .gptr g
  | sl0 id ver off a hU => exact .sl0 id ver off a (x.ids _ hU)
  | sl id ver off len b sz cap e n h hlen hs hcap =>
    refine .sl id ver off len b sz cap e n (x.mu _ _ _ h) hlen ?_ hcap
    rw [x.shape b ?_, hs]
    simp only [World.shape?] at hs
    rcases Nat.lt_or_ge b w.heap.size with h' | h'
    · exact h'
    · simp [Array.getElem?_eq_none h'] at hs
  | asl id ver i off len b sz cap h hlen hcap => exact .asl id ver i off len b sz cap (x.mu _ _ _ h) hlen hcap
  | fsl0 a cap => exact .fsl0 a cap
  | fsl xs b o sz cap f hL hb hcap hz hc hr ih =>
    exact .fsl xs b o sz cap f (fun h' => (x.live b h').elim hL (fun h'' => by omega)) (Nat.lt_of_lt_of_le hb x.size) hcap hz
      (fun j hj q hq => by rw [cell?_congr (x.same b hb hL)]; exact hc j hj q hq) ih
  | csl0 a => exact .csl0 a
  | csl xs b o sz f hL hb hz hc hr ih =>
    exact .csl xs b o sz f (fun h' => (x.live b h').elim hL (fun h'' => by omega)) (Nat.lt_of_lt_of_le hb x.size) hz
      (fun j hj q hq => by rw [cell?_congr (x.same b hb hL)]; exact hc j hj q hq) ih
  | func fn fs cs F C hF hC hf hc ihf ihc => exact .func fn fs cs F C hF hC ihf ihc
  | nilf => exact .nilf
  | iface t v c h ih => exact .iface t v c ih
  | nili => exact .nili
  | agg cs C hC hc ih => exact .agg cs C hC ih
  | tup cs C hC hc ih => exact .tup cs C hC ih
  | map id b sz h => exact .map id b sz (x.mu _ _ _ h)

/-- The cells of a value, one by one. -/
theorem VRel.cells {μ : Mu} {ρ : Nat → Value} {L : LV} {w : World} {v : AV} {c : Value} (h : VRel μ ρ L w v c) (hv : v ≠ .any) (ho : ∀ k, v ≠ .opq k) :
    c.cells.size = v.cells.length ∧ ∀ j (h1 : j < v.cells.length) (h2 : j < c.cells.size), VRel μ ρ L w (v.cells[j]) (c.cells[j]) := by
  cases h <;> first
    | (exact absurd rfl hv)
    | (exact absurd rfl (ho _))
    | (refine ⟨by simp [AV.cells, Value.cells], fun j h1 h2 => ?_⟩
       have hj : j = 0 := by simp only [AV.cells, List.length_singleton] at h1; omega
       subst hj
       simp only [AV.cells, Value.cells, List.getElem_cons_zero, List.getElem_toArray]
       constructor <;> assumption)
    | (rename_i hC hc; exact ⟨hC, hc⟩)
end Go.Proofs.YtndoembhbfiokaaGreatDoor.Am
/- The relation between an abstract state and a state of the model. -/
set_option linter.unusedVariables false
namespace Go.Proofs.YtndoembhbfiokaaGreatDoor.Am
open Go.RowKit

def AV.one : AV → Bool
  | .any | .agg _ | .tup _ | .opq _ => false
  | _ => true
theorem VRel.one {μ : Mu} {ρ : Nat → Value} {L : LV} {w : World} {v : AV} {c : Value} (h : VRel μ ρ L w v c) (h1 : v.one = true) : c.oneCell' = true ∧ c.cells = #[c] ∧ v.cells = [v] := by
  cases h <;> simp_all [AV.one, Value.oneCell', Value.cells, AV.cells]

structure Ctx where
  P : Program
  Γ : Nat → Option AV
  ok : (Nat → Value) → World → Prop
  okΓ : ∀ ρ w0, ok ρ w0 → ∀ g v, Γ g = some v → ∃ c, w0.cell? ⟨g, 0, none⟩ = some c ∧ v.one = true ∧ ∀ μ L w, VRel μ ρ L w v c
  mixed : P.follows .mixedOrders = true

/-- No cell is among those that may not be written. -/
def FzOK (fz : Nat × Nat) (n : Nat) : Prop := fz.1 = fz.2 ∨ n ≤ fz.1
theorem FzOK.at {fz : Nat × Nat} {n : Nat} (h : FzOK fz n) (o : Nat) (ho : o < n) : ¬ (fz.1 ≤ o ∧ o < fz.2) := by
  rcases h with h | h <;> omega
@[simp] theorem FzOK_zero (n : Nat) : FzOK (0, 0) n := .inl rfl
/-- What an identity's slot says of the memory. -/
def SlotOK (μ : Mu) (ρ : Nat → Value) (L : LV) (w0 w : World) (i : Nat) : Slot → Prop
  | .free => ∀ v, μ i v = none
  | .dead => True
  | .row xs sz ver => (∀ v, ver < v → μ i v = none) ∧ ((xs = [] ∧ μ i ver = none) ∨ ∃ b C e fz, μ i ver = some (b, sz) ∧ w0.heap.size ≤ b ∧ w.heap[b]? = some (.cells C e fz) ∧
      FzOK fz C.size ∧ xs.length * sz ≤ C.size ∧ (∀ j (h : j < xs.length), (xs[j].cells).length = sz) ∧
      ∀ j (h : j < xs.length) q (hq : q < (xs[j].cells).length), ∃ c, C[j * sz + q]? = some c ∧ VRel μ ρ L w ((xs[j].cells)[q]) c)
  | .mapo es => ∃ b sz E clock, μ i 0 = some (b, sz) ∧ w0.heap.size ≤ b ∧ w.heap[b]? = some (.map E clock) ∧ E.size = es.length ∧
      ∀ j (h : j < es.length) (h' : j < E.size), VRel μ ρ L w (es[j].1) (E[j].key) ∧ VRel μ ρ L w (es[j].2) (E[j].val)

structure WRel (X : Ctx) (μ : Mu) (ρ : Nat → Value) (w0 : World) (H : AH) (w : World) : Prop where
  ok : X.ok ρ w0
  below : Below w0.heap.size w0 w
  slot : ∀ i, SlotOK μ ρ (Live μ H) w0 w i (H i)
  inj : ∀ i j b, blk μ i (H i) = some b → blk μ j (H j) = some b → i = j

theorem SlotOK.blk_ge {μ : Mu} {ρ : Nat → Value} {L : LV} {w0 w : World} {i : Nat} {s : Slot} (h : SlotOK μ ρ L w0 w i s) {b : Nat} (hb : blk μ i s = some b) : w0.heap.size ≤ b ∧ b < w.heap.size := by
  cases s with
  | free => simp [blk] at hb
  | dead => simp [blk] at hb
  | row xs sz ver =>
    rcases h.2 with ⟨_, h⟩ | ⟨b', C, e, fz, h1, h2, h3, _⟩
    · simp [blk, h] at hb
    · simp [blk, h1] at hb; subst hb; exact ⟨h2, (Array.getElem?_eq_some_iff.1 h3).1⟩
  | mapo es =>
    obtain ⟨b', sz, E, clock, h1, h2, h3, _⟩ := h
    simp [blk, h1] at hb; subst hb; exact ⟨h2, (Array.getElem?_eq_some_iff.1 h3).1⟩

theorem WRel.live_ge {X : Ctx} {μ : Mu} {ρ : Nat → Value} {w0 w : World} {H : AH} (h : WRel X μ ρ w0 H w) {b : Nat} (hb : Live μ H b) : w0.heap.size ≤ b ∧ b < w.heap.size :=
  let ⟨i, hi⟩ := hb; (h.slot i).blk_ge hi

/-- A slot goes on as it was, if its block does. -/
theorem SlotOK.mono {μ μ' : Mu} {ρ : Nat → Value} {L L' : LV} {w0 w w' : World} {i : Nat} {s : Slot} (x : Ext μ L w μ' L' w') (hmu : ∀ v, μ' i v = μ i v)
    (hb : ∀ b, blk μ i s = some b → w'.heap[b]? = w.heap[b]?) (h : SlotOK μ ρ L w0 w i s) : SlotOK μ' ρ L' w0 w' i s := by
  cases s with
  | free => intro v; rw [hmu]; exact h v
  | dead => trivial
  | row xs sz ver =>
    refine ⟨fun v hv => by rw [hmu]; exact h.1 v hv, ?_⟩
    rcases h.2 with ⟨h0, h⟩ | ⟨b, C, e, fz, h1, h2, h3, h4, h5, h6, h7⟩
    · exact .inl ⟨h0, by rw [hmu]; exact h⟩
    · refine .inr ⟨b, C, e, fz, by rw [hmu]; exact h1, h2, by rw [hb b (by simp [blk, h1])]; exact h3, h4, h5, h6, fun j hj q hq => ?_⟩
      obtain ⟨c, hc, hr⟩ := h7 j hj q hq
      exact ⟨c, hc, hr.mono x⟩
  | mapo es =>
    obtain ⟨b, sz, E, clock, h1, h2, h3, h4, h5⟩ := h
    exact ⟨b, sz, E, clock, by rw [hmu]; exact h1, h2, by rw [hb b (by simp [blk, h1])]; exact h3, h4, fun j hj hj' => ⟨(h5 j hj hj').1.mono x, (h5 j hj hj').2.mono x⟩⟩

theorem AH.put_same (H : AH) (i : Nat) (s : Slot) : (H.put i s).get i = s := by simp [AH.put]
theorem AH.put_ne (H : AH) {i j : Nat} (s : Slot) (h : j ≠ i) : (H.put i s).get j = H.get j := by simp [AH.put, h]

theorem put_ids {μ μ' : Mu} {H : AH} {id : Nat} {s : Slot} (hs : s ≠ .free) : ∀ i, (Live μ H).ids i → (Live μ' (H.put id s)).ids i := fun i hi => by
  by_cases e : i = id
  · subst e; show (H.put i s).get i ≠ .free; rw [AH.put_same]; exact hs
  · show (H.put id s).get i ≠ .free; rw [AH.put_ne _ _ e]; exact hi

/-- One identity's slot turns. -/
theorem WRel.put {X : Ctx} {μ μ' : Mu} {ρ : Nat → Value} {w0 w w' : World} {H : AH} (h : WRel X μ ρ w0 H w) (id : Nat) (s : Slot)
    (x : Ext μ (Live μ H) w μ' (Live μ' (H.put id s)) w') (hbelow : Below w0.heap.size w0 w') (hmu : ∀ i, i ≠ id → ∀ v, μ' i v = μ i v)
    (hoth : ∀ i, i ≠ id → ∀ b, blk μ i (H i) = some b → w'.heap[b]? = w.heap[b]?)
    (hnew : SlotOK μ' ρ (Live μ' (H.put id s)) w0 w' id s)
    (hinj : ∀ b, blk μ' id s = some b → ∀ i, i ≠ id → blk μ i (H i) ≠ some b) : WRel X μ' ρ w0 (H.put id s) w' where
  ok := h.ok
  below := hbelow
  slot := fun i => by
    by_cases hi : i = id
    · subst hi; rw [AH.put_same]; exact hnew
    · rw [AH.put_ne _ _ hi]; exact (h.slot i).mono x (hmu i hi) (hoth i hi)
  inj := fun i j b hi hj => by
    have e : ∀ k, k ≠ id → blk μ' k (H k) = blk μ k (H k) := fun k hk => by
      cases H k <;> simp [blk, hmu k hk]
    by_cases h1 : i = id
    · by_cases h2 : j = id
      · rw [h1, h2]
      · subst h1
        rw [AH.put_same] at hi
        rw [AH.put_ne _ _ h2, e j h2] at hj
        exact absurd hj (hinj b hi j h2)
    · by_cases h2 : j = id
      · subst h2
        rw [AH.put_same] at hj
        rw [AH.put_ne _ _ h1, e i h1] at hi
        exact absurd hi (hinj b hj i h1)
      · rw [AH.put_ne _ _ h1, e i h1] at hi
        rw [AH.put_ne _ _ h2, e j h2] at hj
        exact h.inj i j b hi hj

/-- Nothing that is held turns; blocks may have come, draws may have been made. -/
theorem WRel.grow {X : Ctx} {μ : Mu} {ρ : Nat → Value} {w0 w w' : World} {H : AH} (h : WRel X μ ρ w0 H w) (hb : Below w.heap.size w w') :
    Ext μ (Live μ H) w μ (Live μ H) w' ∧ WRel X μ ρ w0 H w' := by
  have hx : Ext μ (Live μ H) w μ (Live μ H) w' :=
    ⟨fun _ _ _ e => e, hb.size, fun b hlt _ => hb.block b hlt, fun b hlt => by simp only [World.shape?, hb.block b hlt], fun b hL => .inl hL, fun _ h => h⟩
  refine ⟨hx, h.ok, h.below.trans ⟨hb.os, hb.tape, hb.output, hb.size, fun k hk => hb.block k (Nat.lt_of_lt_of_le hk h.below.size)⟩, fun i => ?_, h.inj⟩
  exact (h.slot i).mono hx (fun _ => rfl) (fun b hbk => hb.block b ((h.slot i).blk_ge hbk).2)

abbrev Regs := List (Nat × AV)
def Regs.get : Regs → Nat → AV
  | [], _ => .any
  | (k, v) :: r, t => if t = k then v else Regs.get r t
def Regs.put (N : Nat) (r : Regs) (d : Option Tmp) (v : AV) : Regs :=
  match d with
  | none => r
  | some d => if d < N then (d, v) :: r else r

def avOf1 : Value → AV
  | .bool b => .bool b
  | .int k n => .int k n
  | .string s => .str s.data.toList
  | .pointer none => .nilp
  | .slice none 0 0 => .csl []
  | .nilIface => .nili
  | .nilFunc => .nilf
  | _ => .any
def avOf : Value → AV
  | .agg cs => .agg (cs.toList.map avOf1)
  | .tuple cs => .tup (cs.toList.map avOf1)
  | v => avOf1 v

theorem avOf1_rel (μ : Mu) (ρ : Nat → Value) (L : LV) (w : World) (c : Value) : VRel μ ρ L w (avOf1 c) c := by
  unfold avOf1
  split <;> constructor
theorem avOf_rel (μ : Mu) (ρ : Nat → Value) (L : LV) (w : World) (c : Value) : VRel μ ρ L w (avOf c) c := by
  unfold avOf
  split
  · exact .agg _ _ (by simp) (fun j h h' => by simpa using avOf1_rel μ ρ L w _)
  · exact .tup _ _ (by simp) (fun j h h' => by simpa using avOf1_rel μ ρ L w _)
  · exact avOf1_rel ..

def Regs.ev (r : Regs) : Operand → AV
  | .tmp t => r.get t
  | .const v => avOf v
  | .global g => .gptr g
  | .func f => .func (.func f) [] []

structure Rel (X : Ctx) (N : Nat) (μ : Mu) (ρ : Nat → Value) (w0 : World) (r : Regs) (H : AH) (a : Act) (w : World) : Prop where
  tsize : a.tmps.size = N
  defers : a.defers = []
  regs : ∀ t, VRel μ ρ (Live μ H) w (r.get t) (a.tmps.getD t undef)
  world : WRel X μ ρ w0 H w

theorem Rel.ev {X : Ctx} {N : Nat} {μ : Mu} {ρ : Nat → Value} {w0 : World} {r : Regs} {H : AH} {a : Act} {w : World} (h : Rel X N μ ρ w0 r H a w) (x : Operand) :
    VRel μ ρ (Live μ H) w (r.ev x) (a.eval x) := by
  cases x with
  | tmp t => exact h.regs t
  | const v => exact avOf_rel ..
  | global g => exact .gptr g
  | func f => exact .func _ _ _ _ _ rfl rfl (fun j h => by simp at h) (fun j h => by simp at h)

theorem Rel.put {X : Ctx} {N : Nat} {μ μ' : Mu} {ρ : Nat → Value} {w0 : World} {r : Regs} {H H' : AH} {a : Act} {w w' : World} (h : Rel X N μ ρ w0 r H a w)
    (x : Ext μ (Live μ H) w μ' (Live μ' H') w') (hw : WRel X μ' ρ w0 H' w') {d : Option Tmp} {v : AV} {c : Value} (hv : VRel μ' ρ (Live μ' H') w' v c) :
    Rel X N μ' ρ w0 (r.put N d v) H' (a.put d c) w' := by
  cases d with
  | none => exact ⟨h.tsize, h.defers, fun t => (h.regs t).mono x, hw⟩
  | some d =>
    refine ⟨by simp [Act.put, h.tsize], h.defers, fun t => ?_, hw⟩
    simp only [Regs.put]
    have hN := h.tsize
    by_cases hd : d < N
    · rw [if_pos hd]
      simp only [Regs.get, Act.put, Array.getD_eq_getD_getElem?]
      by_cases ht : t = d
      · subst ht; simp [hN, hd, hv]
      · rw [if_neg ht]
        rw [Array.getElem?_setIfInBounds_ne (fun e => ht e.symm), ← Array.getD_eq_getD_getElem?]
        exact (h.regs t).mono x
    · rw [if_neg hd]
      have : a.tmps.setIfInBounds d c = a.tmps := Array.setIfInBounds_eq_of_size_le (hN ▸ Nat.le_of_not_lt hd)
      simp only [Act.put, this]
      exact (h.regs t).mono x

/-- What an operation (no call) does, in whatever state of the model stands behind the abstract one. -/
def SemOp (X : Ctx) (N : Nat) (o : Oper) (r : Regs) (H : AH) (v : AV) (wr : List (Nat × Slot)) : Prop :=
  ∀ μ ρ w0 a w, Rel X N μ ρ w0 r H a w → ∃ n c w' μ', (execOp a.eval o).run X.P w = .ok n w' ∧ (n = .value c ∨ (n = .skip ∧ c = undef)) ∧
    Ext μ (Live μ H) w μ' (Live μ' (H.upd wr)) w' ∧ WRel X μ' ρ w0 (H.upd wr) w' ∧ VRel μ' ρ (Live μ' (H.upd wr)) w' v c

/-- An operation that leaves the world as it is. -/
theorem SemOp.same {X : Ctx} {N : Nat} {o : Oper} {r : Regs} {H : AH} {v : AV}
    (h : ∀ μ ρ w0 a w, Rel X N μ ρ w0 r H a w → ∃ c, (execOp a.eval o).run X.P w = .ok (.value c) w ∧ VRel μ ρ (Live μ H) w v c) : SemOp X N o r H v [] :=
  fun μ ρ w0 a w hR => let ⟨c, h1, h2⟩ := h μ ρ w0 a w hR
  ⟨_, c, w, μ, h1, .inl rfl, .refl _ _ _, hR.world, h2⟩
end Go.Proofs.YtndoembhbfiokaaGreatDoor.Am
