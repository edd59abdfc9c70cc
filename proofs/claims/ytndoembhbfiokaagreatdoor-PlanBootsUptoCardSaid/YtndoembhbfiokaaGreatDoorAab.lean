/- The logic and the contracts that the laws stand on, part 2. -/
import Derived.Test.YtndoembhbfiokaaGreatDoorAaa
import Derived.ArgAppend
import Derived.Laws.IdiomCopy
import Derived.Laws.Rows
import Derived.WalkKit
/- Reading: loads, addresses, plain computing. -/
set_option linter.unusedVariables false
set_option linter.unusedSimpArgs false
namespace Go.Proofs.YtndoembhbfiokaaGreatDoor.Am
open Go.RowKit

def szOf (P : Program) (t : TypeId) : Option Nat := (P.info? t).map (·.size)
def byOf (P : Program) (t : TypeId) : Option Nat := (P.info? t).map (·.bytes)
def zeOf (P : Program) (t : TypeId) : Option AV := ((P.info? t).bind (·.zero)).map avOf
def aggT : TypeDesc → Bool
  | .struct _ | .array _ _ => true
  | _ => false

section
variable {P : Program} {w : World}
theorem run_szOf {t : TypeId} {n : Nat} (h : szOf P t = some n) : (sizeOf t).run P w = .ok n w := by
  simp only [szOf, Option.map_eq_some_iff] at h
  obtain ⟨i, hi, rfl⟩ := h
  simp [sizeOf, typeInfo, hi]
theorem run_aggT {t : TypeId} {d : TypeDesc} (h : P.underlying t = some d) : (isAgg t).run P w = .ok (aggT d) w := by
  simp only [isAgg, Sem.run_bind, run_underlying h, Result.andThen_ok]
  cases d <;> rfl
theorem run_zeOf {t : TypeId} {z : AV} (h : zeOf P t = some z) : ∃ c, (zeroValue t).run P w = .ok c w ∧ z = avOf c ∧ ∃ i, P.info? t = some i ∧ i.zero = some c := by
  simp only [zeOf, Option.map_eq_some_iff, Option.bind_eq_some_iff] at h
  obtain ⟨c, ⟨i, hi, hz⟩, rfl⟩ := h
  exact ⟨c, by simp [zeroValue, typeInfo, hi, hz], rfl, i, hi, hz⟩
end

/-- A type's size and whether its values are of several cells. -/
def ldOf (P : Program) (t : TypeId) : Option (Nat × Bool) := (P.underlying t).bind fun d => (szOf P t).map fun n => (n, aggT d)
theorem ldOf_spec {P : Program} {t : TypeId} {n : Nat} {g : Bool} (h : ldOf P t = some (n, g)) : ∃ d, P.underlying t = some d ∧ szOf P t = some n ∧ aggT d = g := by
  simp only [ldOf, Option.bind_eq_some_iff, Option.map_eq_some_iff, Prod.mk.injEq] at h
  obtain ⟨d, h1, m, h2, rfl, rfl⟩ := h
  exact ⟨d, h1, h2, rfl⟩

/-- The cells from a place on. -/
def CellsAt (μ : Mu) (ρ : Nat → Value) (L : LV) (w : World) (b o : Nat) (cs : List AV) : Prop :=
  ∀ q (h : q < cs.length), ∃ c, w.cell? ⟨b, o + q, none⟩ = some c ∧ VRel μ ρ L w cs[q] c

section
variable {P : Program} {μ : Mu} {ρ : Nat → Value} {L : LV} {w : World}

theorem CellsAt.fn {b o : Nat} {cs : List AV} (h : CellsAt μ ρ L w b o cs) :
    ∃ f : Nat → Value, ∀ q (h : q < cs.length), w.cell? ⟨b, o + q, none⟩ = some (f q) ∧ VRel μ ρ L w cs[q] (f q) := by
  refine ⟨fun q => if hq : q < cs.length then (h q hq).choose else undef, fun q hq => ?_⟩
  simp only [dif_pos hq]
  exact (h q hq).choose_spec

theorem CellsAt.sub {b o : Nat} {cs : List AV} (h : CellsAt μ ρ L w b o cs) (k n : Nat) (hk : k + n ≤ cs.length) : CellsAt μ ρ L w b (o + k) ((cs.drop k).take n) := by
  intro q hq
  simp only [List.length_take, List.length_drop] at hq
  obtain ⟨c, h1, h2⟩ := h (k + q) (by omega)
  exact ⟨c, by rw [Nat.add_assoc]; exact h1, by simpa using h2⟩

theorem run_load_agg {t : TypeId} {d : TypeDesc} {n b o : Nat} {cs : List AV} (hd : P.underlying t = some d) (ha : aggT d = true) (hn : szOf P t = some n) (hl : cs.length = n)
    (h : CellsAt μ ρ L w b o cs) : ∃ c, (loadVar t ⟨b, o, none⟩).run P w = .ok c w ∧ VRel μ ρ L w (.agg cs) c := by
  obtain ⟨f, hf⟩ := h.fn
  have hr := run_loadCells (P := P) w ⟨b, o, none⟩ n f (fun j hj => by rw [Addr.add_lit]; exact (hf j (by omega)).1)
  refine ⟨.agg ((List.range n).map f).toArray, by simp [loadVar, run_aggT hd, ha, run_szOf hn, hr], .agg _ _ (by simp [hl]) (fun j h1 h2 => ?_)⟩
  simpa using (hf j h1).2

theorem run_load_one {t : TypeId} {d : TypeDesc} {b o : Nat} {v : AV} {c : Value} (hd : P.underlying t = some d) (ha : aggT d = false)
    (h : w.cell? ⟨b, o, none⟩ = some c) : (loadVar t ⟨b, o, none⟩).run P w = .ok c w := by
  simp [loadVar, run_aggT hd, ha, run_load, h]
end

theorem VRel.eptr_at {μ : Mu} {ρ : Nat → Value} {L : LV} {w : World} {xs : List AV} {i off : Nat} {c : Value} (h : VRel μ ρ L w (.eptr xs i off) c) :
    ∃ b o, c = .pointer (some ⟨b, o + off, none⟩) ∧ ∀ x, xs[i]? = some x → CellsAt μ ρ L w b o x.cells := by
  cases h with
  | eptr _ _ _ b o sz f hL hb hz hc hr =>
    refine ⟨b, o + i * sz, rfl, fun x hx q hq => ?_⟩
    obtain ⟨hi, rfl⟩ := List.getElem?_eq_some_iff.1 hx
    exact ⟨f i q, hc i hi q (by rw [← hz i hi]; exact hq), hr i hi q hq⟩

theorem WRel.row_at {X : Ctx} {μ : Mu} {ρ : Nat → Value} {w0 w : World} {H : AH} (h : WRel X μ ρ w0 H w) {id ver sz : Nat} {xs : List AV} (hH : H id = .row xs sz ver)
    {b sz' : Nat} (hμ : μ id ver = some (b, sz')) : sz' = sz ∧ w0.heap.size ≤ b ∧ ∃ C e fz, w.heap[b]? = some (.cells C e fz) ∧
      FzOK fz C.size ∧ xs.length * sz ≤ C.size ∧ (∀ j (h : j < xs.length), (xs[j].cells).length = sz) ∧
      ∀ j (h : j < xs.length) q (hq : q < (xs[j].cells).length), ∃ c, C[j * sz + q]? = some c ∧ VRel μ ρ (Live μ H) w ((xs[j].cells)[q]) c := by
  have hs := h.slot id
  rw [hH] at hs
  rcases hs.2 with ⟨_, hn⟩ | ⟨b', C, e, fz, h1, h2, h3, h4, h5, h6, h7⟩
  · rw [hμ] at hn; cases hn
  · rw [hμ] at h1
    simp only [Option.some.injEq, Prod.mk.injEq] at h1
    obtain ⟨rfl, rfl⟩ := h1
    exact ⟨rfl, h2, C, e, fz, h3, h4, h5, h6, h7⟩

theorem WRel.row_cells {X : Ctx} {μ : Mu} {ρ : Nat → Value} {w0 w : World} {H : AH} (h : WRel X μ ρ w0 H w) {id ver sz : Nat} {xs : List AV} (hH : H id = .row xs sz ver)
    {b sz' : Nat} (hμ : μ id ver = some (b, sz')) (i : Nat) (x : AV) (hx : xs[i]? = some x) : CellsAt μ ρ (Live μ H) w b (i * sz) x.cells := by
  obtain ⟨rfl, h2, C, e, fz, h3, h4, h5, h6, h7⟩ := h.row_at hH hμ
  obtain ⟨hi, rfl⟩ := List.getElem?_eq_some_iff.1 hx
  intro q hq
  obtain ⟨c, hc, hr⟩ := h7 i hi q hq
  exact ⟨c, by simp [World.cell?, h3, hc], hr⟩

/-! ### Loads -/
def loadX (P : Program) (t : TypeId) (x : AV) (off : Nat) (K : AV → Prop) : Prop :=
  ∃ n g, ldOf P t = some (n, g) ∧
    if g = true then off + n ≤ x.cells.length ∧ K (.agg ((x.cells.drop off).take n)) else ∃ c, x.cells[off]? = some c ∧ K c

theorem loadX_run {P : Program} {t : TypeId} {x : AV} {off : Nat} {K : AV → Prop} (h : loadX P t x off K) :
    ∃ v, K v ∧ ∀ μ ρ L w b o, CellsAt μ ρ L w b o x.cells → ∃ c, (loadVar t ⟨b, o + off, none⟩).run P w = .ok c w ∧ VRel μ ρ L w v c := by
  obtain ⟨n, g, hn, h⟩ := h
  obtain ⟨d, hd, hs, ha⟩ := ldOf_spec hn
  split at h
  · rename_i hg
    refine ⟨_, h.2, fun μ ρ L w b o hc => run_load_agg hd (ha.trans hg) hs (by simp; omega) (hc.sub off n h.1)⟩
  · rename_i hg
    obtain ⟨c, hc, hK⟩ := h
    obtain ⟨hi, rfl⟩ := List.getElem?_eq_some_iff.1 hc
    refine ⟨_, hK, fun μ ρ L w b o hcs => ?_⟩
    obtain ⟨u, hu, hr⟩ := hcs off hi
    exact ⟨u, run_load_one (v := .any) hd (by rw [ha]; simpa using hg) hu, hr⟩

/-- What an operation answers: the value, the identities that it looks at, what it writes. -/
abbrev Post := AV → List Nat → List (Nat × Slot) → Prop

def aLoad (X : Ctx) (t : TypeId) (p : AV) (H : AH) (K : Post) : Prop :=
  match p with
  | .eptr xs i off => ∃ x, xs[i]? = some x ∧ loadX X.P t x off (fun v => K v [] [])
  | .ptr id ver i off => ∃ xs sz x, H id = .row xs sz ver ∧ xs[i]? = some x ∧ loadX X.P t x off (fun v => K v [id] [])
  | .gptr g => ∃ v d, X.Γ g = some v ∧ X.P.underlying t = some d ∧ aggT d = false ∧ K v [] []
  | _ => False

/-- An operation is sound for what it answers, in every heap that agrees where it looks. -/
def Local (X : Ctx) (N : Nat) (o : Oper) (r : Regs) (H : AH) (v : AV) (rd : List Nat) (wr : List (Nat × Slot)) : Prop :=
  (∀ i s, (i, s) ∈ wr → i ∈ rd) ∧
  ∀ r' H', (∀ x ∈ o.op.operands.toList, r'.ev x = r.ev x) → (∀ i ∈ rd, H' i = H i) → SemOp X N o r' H' v wr

theorem aLoad_sound {X : Ctx} {N : Nat} {o : Oper} {t : TypeId} {x : Operand} (ho : o.op = .load t x) {r : Regs} {H : AH} {K : Post} (h : aLoad X t (r.ev x) H K) :
    ∃ v rd wr, K v rd wr ∧ Local X N o r H v rd wr := by
  unfold aLoad at h
  split at h
  · rename_i xs i off hp
    obtain ⟨y, hy, h⟩ := h
    obtain ⟨v, hK, hrun⟩ := loadX_run h
    refine ⟨v, [], [], hK, by simp, fun r' H' hr' _ => SemOp.same fun μ ρ w0 a w hR => ?_⟩
    have hv := hR.ev x
    rw [hr' x (by simp [ho, Op.operands]), hp] at hv
    obtain ⟨b, o', hc, hcs⟩ := hv.eptr_at
    obtain ⟨c, h1, h2⟩ := hrun _ _ _ w b o' (hcs y hy)
    exact ⟨c, by simp [execOp, ho, Instr.loadAt, Instr.sureAddr, hc, h1], h2⟩
  · rename_i id ver i off hp
    obtain ⟨xs, sz, y, hH, hy, h⟩ := h
    obtain ⟨v, hK, hrun⟩ := loadX_run h
    refine ⟨v, [id], [], hK, by simp, fun r' H' hr' hH' => SemOp.same fun μ ρ w0 a w hR => ?_⟩
    have hv := hR.ev x
    rw [hr' x (by simp [ho, Op.operands]), hp] at hv
    have hHid : H' id = .row xs sz ver := by rw [hH' id (by simp), hH]
    generalize hcv : a.eval x = cv at hv
    cases hv with
    | ptr _ _ _ _ b sz' hμ =>
      obtain ⟨rfl, _⟩ := hR.world.row_at hHid hμ
      obtain ⟨c, h1, h2⟩ := hrun _ _ _ w b _ (hR.world.row_cells hHid hμ i y hy)
      exact ⟨c, by simp [execOp, ho, Instr.loadAt, Instr.sureAddr, hcv, h1], h2⟩
  · rename_i g hp
    obtain ⟨v, d, hΓ, hd, ha, hK⟩ := h
    refine ⟨v, [], [], hK, by simp, fun r' H' hr' _ => SemOp.same fun μ ρ w0 a w hR => ?_⟩
    have hv := hR.ev x
    rw [hr' x (by simp [ho, Op.operands]), hp] at hv
    obtain ⟨c, hc, _, hrel⟩ := X.okΓ ρ w0 hR.world.ok g v hΓ
    have hc' : w.cell? ⟨g, 0, none⟩ = some c := by rw [hR.world.below.cell (World.block_lt_of_cell? w0 _ hc)]; exact hc
    generalize hcv : a.eval x = cv at hv
    cases hv with
    | gptr => exact ⟨c, by simp [execOp, ho, Instr.loadAt, Instr.sureAddr, hcv, run_load_one (v := .any) hd ha hc'], hrel _ _ _⟩
  · exact h.elim
end Go.Proofs.YtndoembhbfiokaaGreatDoor.Am
