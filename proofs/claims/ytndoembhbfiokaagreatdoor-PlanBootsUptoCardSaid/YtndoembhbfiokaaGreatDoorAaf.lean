/- The logic and the contracts that the laws stand on, part 6. -/
import Derived.Test.YtndoembhbfiokaaGreatDoorAae
import Derived.Deep.Upon
/- Stores. -/
set_option linter.unusedVariables false
set_option linter.unusedSimpArgs false
namespace Go.Proofs.YtndoembhbfiokaaGreatDoor.Am
open Go.RowKit

/-- The block behind a row of stores. -/
theorem setCells_heap (b : Nat) : ∀ (vs : List Value) (o : Nat) (w : World) (C : Array Value) (e : TypeId) (fz : Nat × Nat), w.heap[b]? = some (.cells C e fz) →
    ∃ D, (w.setCells b o vs).heap[b]? = some (.cells D e fz) ∧ D.size = C.size ∧ ∀ k, D[k]? = if o ≤ k ∧ k < o + vs.length ∧ k < C.size then vs[k - o]? else C[k]?
  | [], o, w, C, e, fz, h => ⟨C, h, rfl, fun k => by simp; omega⟩
  | v :: vs, o, w, C, e, fz, h => by
    have h1 : (w.setCell ⟨b, o, none⟩ v).heap[b]? = some (.cells (C.setIfInBounds o v) e fz) := by
      simp [World.setCell, Array.getElem?_modify, h]
    obtain ⟨D, hD, hs, hk⟩ := setCells_heap b vs (o + 1) (w.setCell ⟨b, o, none⟩ v) (C.setIfInBounds o v) e fz h1
    refine ⟨D, hD, by rw [hs]; simp, fun k => ?_⟩
    rw [hk k]
    simp only [Array.size_setIfInBounds, List.length_cons]
    by_cases hko : k = o
    · subst hko
      by_cases hc : k < C.size
      · rw [if_neg (by omega), if_pos (by omega)]; simp [hc]
      · rw [if_neg (by omega), if_neg (by omega), Array.setIfInBounds_eq_of_size_le (by omega)]
    · by_cases hin : o + 1 ≤ k ∧ k < o + 1 + vs.length ∧ k < C.size
      · rw [if_pos hin, if_pos (by omega)]
        obtain ⟨m, hm⟩ : ∃ m, k - o = m + 1 := ⟨k - o - 1, by omega⟩
        rw [hm, List.getElem?_cons_succ, show k - (o + 1) = m by omega]
      · rw [if_neg hin, if_neg (by omega), Array.getElem?_setIfInBounds_ne (fun h' => hko h'.symm)]
theorem setCells_other (b : Nat) : ∀ (vs : List Value) (o : Nat) (w : World) (k : Nat), k ≠ b → (w.setCells b o vs).heap[k]? = w.heap[k]?
  | [], _, _, _, _ => rfl
  | v :: vs, o, w, k, h => by
    simp only [World.setCells]
    rw [setCells_other b vs (o + 1) _ k h]
    simp [World.setCell, Array.getElem?_modify, Ne.symm h]
theorem setCells_rest (b : Nat) : ∀ (vs : List Value) (o : Nat) (w : World), (w.setCells b o vs).os = w.os ∧ (w.setCells b o vs).tape = w.tape ∧ (w.setCells b o vs).output = w.output ∧ (w.setCells b o vs).heap.size = w.heap.size
  | [], _, _ => ⟨rfl, rfl, rfl, rfl⟩
  | v :: vs, o, w => by
    obtain ⟨h1, h2, h3, h4⟩ := setCells_rest b vs (o + 1) (w.setCell ⟨b, o, none⟩ v)
    exact ⟨h1, h2, h3, by simp only [World.setCells, h4]; simp⟩

theorem not_frozen {w : World} {b : Nat} {C : Array Value} {e : TypeId} {fz : Nat × Nat} (h : w.heap[b]? = some (.cells C e fz)) {o : Nat} (ho : ¬ (fz.1 ≤ o ∧ o < fz.2)) : w.frozen? ⟨b, o, none⟩ = false := by
  obtain ⟨lo, hi⟩ := fz
  simp only [World.frozen?, h]
  simp only at ho
  by_cases h1 : lo ≤ o
  · simp [h1]; omega
  · simp [h1]

/-- A row is written: the same block, other elements, another mark behind them. -/
theorem setRow' {X : Ctx} {μ : Mu} {ρ : Nat → Value} {w0 w w' : World} {H : AH} (hW : WRel X μ ρ w0 H w) {id ver sz b : Nat} {xs ys : List AV} (hH : H id = .row xs sz ver) (hμ : μ id ver = some (b, sz))
    (hrest : w'.os = w.os ∧ w'.tape = w.tape ∧ w'.output = w.output ∧ w'.heap.size = w.heap.size) (hother : ∀ k, k ≠ b → w'.heap[k]? = w.heap[k]?)
    {C D : Array Value} {e : TypeId} {fz fz' : Nat × Nat} (hC : w.heap[b]? = some (.cells C e fz)) (hD : w'.heap[b]? = some (.cells D e fz')) (hs : D.size = C.size) (hfz : FzOK fz' C.size)
    (hlen : ys.length * sz ≤ C.size) (hE : ERel μ ρ (Live μ H) w sz ys D) :
    Ext μ (Live μ H) w μ (Live μ (H.put id (.row ys sz ver))) w' ∧ WRel X μ ρ w0 (H.put id (.row ys sz ver)) w' := by
  have hbid : blk μ id (H id) = some b := by simp [hH, blk, hμ]
  have hlive : Live μ H b := ⟨id, hbid⟩
  have hge := hW.live_ge hlive
  have hblk : ∀ i, blk μ i ((H.put id (.row ys sz ver)).get i) = blk μ i (H.get i) := fun i => by
    by_cases hi : i = id
    · subst hi; rw [AH.put_same, hbid]; simp [blk, hμ]
    · rw [AH.put_ne _ _ hi]
  have hx : Ext μ (Live μ H) w μ (Live μ (H.put id (.row ys sz ver))) w' := by
    refine ⟨fun _ _ _ h => h, by omega, fun c hc hn => hother c (fun h => hn (h ▸ hlive)), fun c hc => ?_, fun c hc => ?_, put_ids (by simp)⟩
    · by_cases hcb : c = b
      · subst hcb; simp only [World.shape?, hC, hD, hs]
      · simp only [World.shape?, hother c hcb]
    · obtain ⟨i, hi⟩ := hc
      rw [hblk] at hi
      exact .inl ⟨i, hi⟩
  have hbel : Below w0.heap.size w0 w' := hW.below.trans ⟨hrest.1, hrest.2.1, hrest.2.2.1, by omega, fun k hk => hother k (by have := hge.1; omega)⟩
  refine ⟨hx, hW.put id _ hx hbel (fun _ _ _ => rfl) (fun i hi c hc => hother c (fun h => ?_)) ?_ (fun c hc i hi hc' => ?_)⟩
  · subst h; exact hi (hW.inj i id c hc hbid)
  · have hver := hW.slot id
    rw [hH] at hver
    refine ⟨hver.1, .inr ⟨b, D, e, fz', hμ, hge.1, hD, by rw [hs]; exact hfz, by rw [hs]; exact hlen, fun j h => hE.1 j _ (List.getElem?_eq_getElem h), fun j h q hq => ?_⟩⟩
    obtain ⟨c, h1, h2⟩ := hE.2 j _ (List.getElem?_eq_getElem h) q _ (List.getElem?_eq_getElem hq)
    exact ⟨c, h1, h2.mono hx⟩
  · simp only [blk, hμ, Option.map_some, Option.some.injEq] at hc
    subst hc
    exact hi (hW.inj i id _ hc' hbid)

/-- A row is written: the same block, other elements. -/
theorem setRow {X : Ctx} {μ : Mu} {ρ : Nat → Value} {w0 w w' : World} {H : AH} (hW : WRel X μ ρ w0 H w) {id ver sz b : Nat} {xs ys : List AV} (hH : H id = .row xs sz ver) (hμ : μ id ver = some (b, sz))
    (hrest : w'.os = w.os ∧ w'.tape = w.tape ∧ w'.output = w.output ∧ w'.heap.size = w.heap.size) (hother : ∀ k, k ≠ b → w'.heap[k]? = w.heap[k]?)
    {C D : Array Value} {e : TypeId} {fz : Nat × Nat} (hC : w.heap[b]? = some (.cells C e fz)) (hD : w'.heap[b]? = some (.cells D e fz)) (hs : D.size = C.size) (hfz : FzOK fz C.size)
    (hlen : ys.length * sz ≤ C.size) (hE : ERel μ ρ (Live μ H) w sz ys D) :
    Ext μ (Live μ H) w μ (Live μ (H.put id (.row ys sz ver))) w' ∧ WRel X μ ρ w0 (H.put id (.row ys sz ver)) w' :=
  setRow' hW hH hμ hrest hother hC hD hs hfz hlen hE
def AV.splice (e : AV) (off : Nat) (x : AV) : AV :=
  match e with
  | .agg es => .agg (es.take off ++ x.cells ++ es.drop (off + x.cells.length))
  | _ => x
def AV.isAgg : AV → Bool
  | .agg _ => true
  | _ => false

section
variable {X : Ctx} {N : Nat} {o : Oper} {r : Regs} {H : AH} {K : Post}

def aStore (X : Ctx) (t : TypeId) (p x : AV) (H : AH) (K : Post) : Prop :=
  match p with
  | .ptr id ver i off => ∃ xs sz e n, H id = .row xs sz ver ∧ xs[i]? = some e ∧ szOf X.P t = some n ∧ x.good = true ∧ x.cells.all AV.one = true ∧ x.cells.length = n ∧ off + n ≤ e.cells.length ∧
      (e.isAgg = true ∨ (off = 0 ∧ x.isAgg = false)) ∧ K .any [id] [(id, .row (xs.set i (e.splice off x)) sz ver)]
  | _ => False

theorem splice_cells {e x : AV} {off : Nat} (h : e.isAgg = true ∨ (off = 0 ∧ x.isAgg = false)) (hx : off + x.cells.length ≤ e.cells.length) :
    (e.splice off x).cells = e.cells.take off ++ x.cells ++ e.cells.drop (off + x.cells.length) := by
  cases e with
  | agg es => rfl
  | _ =>
    rcases h with h | ⟨rfl, h⟩
    · simp [AV.isAgg] at h
    · have hxc : x.cells = [x] := by cases x <;> simp_all [AV.cells, AV.isAgg]
      simp only [AV.splice, hxc]
      simp [AV.cells]

theorem aStore_sound {t : TypeId} {p x : Operand} (ho : o.op = .store t p x) (h : aStore X t (r.ev p) (r.ev x) H K) : ∃ v rd wr, K v rd wr ∧ Local X N o r H v rd wr := by
  unfold aStore at h
  split at h
  · rename_i id ver i off hp
    obtain ⟨xs, sz, e, n, hH, he, hn, hg, hone, hlen, hoff, hagg, hK⟩ := h
    refine ⟨_, _, _, hK, by simp, fun r' H' hr' hH' μ ρ w0 a w hR => ?_⟩
    have hvp := hR.ev p
    have hvx := hR.ev x
    rw [hr' _ (by simp [ho, Op.operands])] at hvp hvx
    rw [hp] at hvp
    have hHid : H' id = .row xs sz ver := by rw [hH' id (by simp), hH]
    have hcx := hvx.crel hg
    generalize hcp : a.eval p = cp at hvp
    cases hvp with
    | ptr _ _ _ _ b sz' hμ =>
      obtain ⟨rfl, hge, C, et, fz, hC, hfz, hCl, hEl, hEr⟩ := hR.world.row_at hHid hμ
      obtain ⟨hi, rfl⟩ := List.getElem?_eq_some_iff.1 he
      have hel : (xs[i].cells).length = sz' := hEl i hi
      have hcsz : (a.eval x).cells.toList.length = n := by rw [Array.length_toList, hcx.1, hlen]
      have hbound : i * sz' + sz' ≤ C.size := by
        have : (i + 1) * sz' ≤ xs.length * sz' := Nat.mul_le_mul_right _ hi
        rw [Nat.add_mul, Nat.one_mul] at this
        omega
      have hones : ∀ v ∈ (a.eval x).cells.toList, v.oneCell' = true := by
        intro v hv
        obtain ⟨j, hj⟩ := List.getElem?_of_mem hv
        have hjl' : j < (r.ev x).cells.length := by
          have := (List.getElem?_eq_some_iff.1 hj).1
          omega
        obtain ⟨c, hc1, hc2⟩ := hcx.2 j _ (List.getElem?_eq_getElem hjl')
        have : c = v := by
          rw [Array.getElem?_toList] at hj
          rw [hc1] at hj; exact Option.some.inj hj
        subst this
        exact (hc2.one (List.all_eq_true.1 hone _ (List.getElem_mem hjl'))).1
      have hcell : ∀ j, j < (a.eval x).cells.toList.length → (w.cell? ⟨b, (i * sz' + off) + 0 + j, none⟩).isSome = true := fun j hj => by
        have : i * sz' + off + j < C.size := by omega
        simp [World.cell?, hC, this]
      have hfroz : ∀ j, j < (a.eval x).cells.toList.length → w.frozen? ⟨b, (i * sz' + off) + 0 + j, none⟩ = false := fun j hj => by
        have := hfz.at (i * sz' + off + 0 + j) (by omega)
        exact not_frozen hC this
      have hst := run_storeCells_cells (P := X.P) b (i * sz' + off) (a.eval x).cells.toList 0 w hcell hfroz hones
      rw [Nat.add_zero] at hst
      obtain ⟨D, hD, hDs, hDk⟩ := setCells_heap b (a.eval x).cells.toList (i * sz' + off) w C et fz hC
      have hE : ERel μ ρ (Live μ H') w sz' (xs.set i (xs[i].splice off (r.ev x))) D := by
        have hsc := splice_cells hagg (by omega : off + (r.ev x).cells.length ≤ (xs[i].cells).length)
        have hscl : ((xs[i].splice off (r.ev x)).cells).length = sz' := by rw [hsc]; simp; omega
        refine ⟨fun j y hy => ?_, fun j y hy q v hv => ?_⟩
        · rw [List.getElem?_set] at hy
          split at hy
          · rename_i hij
            rw [← Option.some.inj hy]; exact hscl
          · obtain ⟨hj, rfl⟩ := List.getElem?_eq_some_iff.1 hy
            exact hEl j hj
        · rw [List.getElem?_set] at hy
          rw [hDk, hcsz]
          split at hy
          · rename_i hij
            subst hij
            rw [← Option.some.inj hy, hsc, splice_get _ _ _ _ (by omega)] at hv
            split at hv
            · rename_i hq
              obtain ⟨c, h1, h2⟩ := hcx.2 _ _ hv
              refine ⟨c, ?_, h2⟩
              rw [if_pos (by omega), Array.getElem?_toList, show i * sz' + q - (i * sz' + off) = q - off by omega]
              exact h1
            · rename_i hq
              obtain ⟨hq1, rfl⟩ := List.getElem?_eq_some_iff.1 hv
              obtain ⟨c, h1, h2⟩ := hEr i hi q hq1
              exact ⟨c, by rw [if_neg (by omega)]; exact h1, h2⟩
          · rename_i hij
            obtain ⟨hj, rfl⟩ := List.getElem?_eq_some_iff.1 hy
            obtain ⟨hq1, rfl⟩ := List.getElem?_eq_some_iff.1 hv
            obtain ⟨c, h1, h2⟩ := hEr j hj q hq1
            refine ⟨c, ?_, h2⟩
            rw [if_neg ?_]
            · exact h1
            · have hq2 := hEl j hj
              rcases Nat.lt_or_gt_of_ne hij with hlt | hlt
              · have : (i + 1) * sz' ≤ j * sz' := Nat.mul_le_mul_right _ hlt
                rw [Nat.add_mul, Nat.one_mul] at this
                omega
              · have : (j + 1) * sz' ≤ i * sz' := Nat.mul_le_mul_right _ hlt
                rw [Nat.add_mul, Nat.one_mul] at this
                omega
      obtain ⟨hx, hW'⟩ := setRow hR.world hHid hμ (setCells_rest b _ _ w) (fun k hk => setCells_other b _ _ w k hk) hC hD hDs hfz (by simpa using hCl) hE
      refine ⟨.skip, undef, _, μ, ?_, .inr ⟨rfl, rfl⟩, hx, hW', .any _⟩
      have hsz : (a.eval x).cells.size = n := by simpa using hcsz
      simp [execOp, ho, Instr.storeAt, Instr.sureAddr, hcp, storeVar, run_szOf hn, hsz, hst]
  · exact h.elim
end
end Go.Proofs.YtndoembhbfiokaaGreatDoor.Am
/- append, lengths, pieces. -/
set_option linter.unusedVariables false
set_option linter.unusedSimpArgs false
namespace Go.Proofs.YtndoembhbfiokaaGreatDoor.Am
open Go.RowKit

def apOf (P : Program) (t : TypeId) : Option (TypeId × Nat × Nat) :=
  match P.underlying t with
  | some (.slice e) => (P.info? e).bind fun i => i.zero.bind fun z => if z.cells.size = i.size ∧ 0 < i.size ∧ 0 < i.bytes then some (e, i.size, i.bytes) else none
  | _ => none
theorem apOf_spec {P : Program} {t e : TypeId} {n by_ : Nat} (h : apOf P t = some (e, n, by_)) :
    P.underlying t = some (.slice e) ∧ ∃ i z, P.info? e = some i ∧ i.zero = some z ∧ i.size = n ∧ i.bytes = by_ ∧ z.cells.size = n ∧ 0 < n ∧ 0 < by_ := by
  unfold apOf at h
  split at h
  · rename_i e' hu
    simp only [Option.bind_eq_some_iff] at h
    obtain ⟨i, hi, z, hz, h⟩ := h
    split at h
    · rename_i hc
      simp only [Option.some.injEq, Prod.mk.injEq] at h
      obtain ⟨rfl, rfl, rfl⟩ := h
      exact ⟨hu, i, z, hi, hz, rfl, rfl, hc⟩
    · cases h
  · cases h

section
variable {μ : Mu} {ρ : Nat → Value} {w : World} {X : Ctx} {w0 : World} {H : AH}

theorem toList_erel {L : LV} {n : Nat} {ys : List AV} {C : Array Value} (h : ERel μ ρ L w n ys C) (ys' : List AV) (h' : ys' = ys) : ERel μ ρ L w n ys' C := h' ▸ h

/-- What a slice that is read stands for: its cells, in a list. -/
theorem src_of_f {L : LV} {ys : List AV} {b o n : Nat} {f : Nat → Nat → Value} (hn : ∀ (j : Nat) (y : AV), ys[j]? = some y → y.cells.length = n)
    (hc : ∀ j, j < ys.length → ∀ q, q < n → w.cell? ⟨b, o + j * n + q, none⟩ = some (f j q)) (hr : ∀ j (h : j < ys.length) q (hq : q < (ys[j].cells).length), VRel μ ρ L w ((ys[j].cells)[q]) (f j q)) :
    ∃ news : List Value, news.length = ys.length * n ∧ (∀ (j : Nat) (u : Value), news[j]? = some u → w.cell? ((⟨b, o, none⟩ : Addr).add j) = some u) ∧ ERel μ ρ L w n ys news.toArray := by
  refine ⟨(List.range (ys.length * n)).map fun k => f (k / n) (k % n), by simp, fun j u hu => ?_, hn, fun j y hy q v hv => ?_⟩
  · simp only [List.getElem?_map, Option.map_eq_some_iff] at hu
    obtain ⟨k, hk, rfl⟩ := hu
    obtain ⟨hk1, hk2⟩ := List.getElem?_eq_some_iff.1 hk
    simp only [List.getElem_range] at hk2
    subst hk2
    simp only [List.length_range] at hk1
    have hn0 : 0 < n := by rcases Nat.eq_zero_or_pos n with h | h; · subst h; simp at hk1
                           · exact h
    rw [Addr.add_lit]
    have := hc (j / n) (by rw [Nat.div_lt_iff_lt_mul hn0]; exact hk1) (j % n) (Nat.mod_lt _ hn0)
    rw [Nat.add_assoc, Nat.div_add_mod'] at this
    exact this
  · obtain ⟨hj, rfl⟩ := List.getElem?_eq_some_iff.1 hy
    obtain ⟨hq, rfl⟩ := List.getElem?_eq_some_iff.1 hv
    have hl := hn j _ hy
    refine ⟨f j q, ?_, hr j hj q hq⟩
    have hqn : q < n := by omega
    have hlt : j * n + q < ys.length * n := by
      have : (j + 1) * n ≤ ys.length * n := Nat.mul_le_mul_right _ hj
      rw [Nat.add_mul, Nat.one_mul] at this; omega
    simp only [List.getElem?_toArray, List.getElem?_map]
    rw [List.getElem?_range hlt]
    simp only [Option.map_some]
    have hn0 : 0 < n := by omega
    rw [show (j * n + q) / n = j from by rw [Nat.mul_comm, Nat.mul_add_div hn0, Nat.div_eq_of_lt hqn, Nat.add_zero], show (j * n + q) % n = q from by rw [Nat.mul_comm, Nat.mul_add_mod, Nat.mod_eq_of_lt hqn]]

/-- The elements that are appended, copied, made a string of. -/
def aSrc (x : AV) (H : AH) (K : List AV → List Nat → Prop) : Prop :=
  match x with
  | .fsl ys => K ys []
  | .csl ys => K ys []
  | .sl id ver off len => ∃ zs sz, H id = .row zs sz ver ∧ off + len ≤ zs.length ∧ K ((zs.drop off).take len) [id]
  | _ => False

theorem aSrc_spec {x : AV} {K : List AV → List Nat → Prop} (h : aSrc x H K) : ∃ ys rd, K ys rd ∧ ∀ (H' : AH), (∀ i ∈ rd, H' i = H i) →
    ∀ μ ρ w0 w c, WRel X μ ρ w0 H' w → VRel μ ρ (Live μ H') w x c → ∀ n, (∀ y ∈ ys, y.cells.length = n) →
      ∃ a cap, c = .slice a ys.length cap ∧ ys.length ≤ cap ∧ (0 < ys.length → ∃ b o, a = some ⟨b, o, none⟩ ∧ ∃ news : List Value, news.length = ys.length * n ∧
        (∀ (j : Nat) (u : Value), news[j]? = some u → w.cell? ((⟨b, o, none⟩ : Addr).add j) = some u) ∧ ERel μ ρ (Live μ H') w n ys news.toArray) := by
  unfold aSrc at h
  split at h
  · rename_i ys
    refine ⟨ys, [], h, fun H' _ μ ρ w0 w c hW hv n hn => ?_⟩
    cases hv with
    | fsl0 a cap => exact ⟨a, cap, rfl, by simp, fun h => by simp at h⟩
    | fsl _ b o sz cap f hL hb hcap hz hc hr =>
      refine ⟨_, cap, rfl, hcap, fun hpos => ⟨b, o, rfl, ?_⟩⟩
      have hsz : sz = n := by rw [← hz 0 hpos]; exact hn _ (List.getElem_mem hpos)
      subst hsz
      exact src_of_f (fun j y hy => hn y (List.mem_of_getElem? hy)) hc hr
  · rename_i ys
    refine ⟨ys, [], h, fun H' _ μ ρ w0 w c hW hv n hn => ?_⟩
    cases hv with
    | csl0 a => exact ⟨a, 0, rfl, by simp, fun h => by simp at h⟩
    | csl _ b o sz f hL hb hz hc hr =>
      refine ⟨_, _, rfl, Nat.le_refl _, fun hpos => ⟨b, o, rfl, ?_⟩⟩
      have hsz : sz = n := by rw [← hz 0 hpos]; exact hn _ (List.getElem_mem hpos)
      subst hsz
      exact src_of_f (fun j y hy => hn y (List.mem_of_getElem? hy)) hc hr
  · rename_i id ver off len
    obtain ⟨zs, sz, hH, hle, hK⟩ := h
    refine ⟨_, _, hK, fun H' hH' μ ρ w0 w c hW hv n hn => ?_⟩
    have hHid : H' id = .row zs sz ver := by rw [hH' id (by simp), hH]
    have hl : ((zs.drop off).take len).length = len := by simp; omega
    rw [hl]
    cases hv with
    | sl0 _ _ _ a => exact ⟨a, 0, rfl, by simp, fun h => by simp at h⟩
    | sl _ _ _ _ b sz' cap e n' hμ hlen hshp hcap =>
      refine ⟨_, cap, rfl, hlen, fun hpos => ⟨b, off * sz', rfl, ?_⟩⟩
      obtain ⟨rfl, hge, C, et, fz, hC, hfz, hCl, hEl, hEr⟩ := hW.row_at hHid hμ
      have hj : ∀ j, j < len → ∃ (h : off + j < zs.length), ((zs.drop off).take len)[j]? = some zs[off + j] := fun j hj => ⟨by omega, by
        rw [List.getElem?_take_of_lt hj, List.getElem?_drop, List.getElem?_eq_getElem (by omega)]⟩
      have hsz : sz' = n := by
        obtain ⟨h1, h2⟩ := hj 0 hpos
        rw [← hEl _ h1]
        exact hn _ (List.mem_of_getElem? h2)
      subst hsz
      have hf : ∃ f : Nat → Nat → Value, ∀ j q, j < len → q < sz' → C[(off + j) * sz' + q]? = some (f j q) := by
        refine ⟨fun j q => (C[(off + j) * sz' + q]?).getD undef, fun j q h1 h2 => ?_⟩
        have hb : (off + j) * sz' + q < C.size := by
          have : (off + j + 1) * sz' ≤ zs.length * sz' := Nat.mul_le_mul_right _ (by omega)
          rw [Nat.add_mul (off + j), Nat.one_mul] at this
          omega
        simp only [Array.getElem?_eq_getElem hb, Option.getD_some]
      obtain ⟨f, hf⟩ := hf
      have hln : ((zs.drop off).take len).length = len := hl
      have key := src_of_f (μ := μ) (ρ := ρ) (w := w) (L := Live μ H') (ys := (zs.drop off).take len) (b := b) (o := off * sz') (n := sz') (f := f) (fun j y hy => hn y (List.mem_of_getElem? hy))
        (fun j h1 q h2 => by
          rw [hln] at h1
          have := hf j q h1 h2
          rw [Nat.add_mul] at this
          simp [World.cell?, hC, this])
        (fun j h1 q hq => by
          have h1' : j < len := by rw [hln] at h1; exact h1
          obtain ⟨h2, h3⟩ := hj j h1'
          have e1 : ((zs.drop off).take len)[j] = zs[off + j] := by
            have := List.getElem?_eq_getElem h1
            rw [h3] at this; exact (Option.some.inj this).symm
          have hq' : q < (zs[off + j].cells).length := by rw [← e1]; exact hq
          obtain ⟨c, hc1, hc2⟩ := hEr (off + j) h2 q hq'
          rw [hf j q h1' (by rw [← hEl _ h2]; exact hq')] at hc1
          rw [Option.some.inj hc1]
          simp only [e1]
          exact hc2)
      rw [hln] at key
      exact key
  · exact h.elim
end

theorem run_append_zero {P : Program} {w : World} {t e ty : TypeId} {i : TypeInfo} (ht : P.underlying t = some (.slice e)) (hi : P.info? e = some i) (ao bo : Option Addr) (n cap c : Nat) (h : n ≤ cap) :
    (Builtin.append_ #[t, t] ty #[.slice bo n cap, .slice ao 0 c]).run P w = .ok (.slice bo n cap) w := by
  have hl : ∀ (x : Addr), (loadCells x 0).run P w = .ok #[] w := fun x => by simpa using run_loadCells_list (P := P) w x [] (by simp)
  cases ao <;> cases bo <;> simp [Builtin.append_, run_underlying ht, sizeOf, typeInfo, hi, Builtin.lenOf, h, Builtin.firstCells, hl, storeCells]

section
variable {X : Ctx} {N : Nat} {o : Oper} {r : Regs} {H : AH} {K : Post}

def aAppend (X : Ctx) (lv : Bool) (t : TypeId) (s x : AV) (H : AH) (K : Post) : Prop :=
  ∃ e n by_, apOf X.P t = some (e, n, by_) ∧ aSrc x H fun ys rd => (∀ y ∈ ys, y.cells.length = n ∧ y.cells.all AV.one = true) ∧
    match s with
    | .csl xs => (∀ x ∈ xs, x.cells.length = n) ∧ (xs.length + ys.length) * by_ ≤ 140737488355328 ∧
        if lv = true then (xs = [] ∨ ys ≠ []) ∧ H.get H.nx = .free ∧ K (.sl H.nx 0 0 (xs.length + ys.length)) (H.nx :: rd) [(H.nx, .row (xs ++ ys) n 0)] else K (.fsl (xs ++ ys)) rd []
    | .sl id ver off len => ∃ zs, off = 0 ∧ H id = .row zs n ver ∧ len = zs.length ∧ (len + ys.length) * by_ ≤ 140737488355328 ∧ K (.sl id (ver + 1) 0 (len + ys.length)) (id :: rd) [(id, .row (zs ++ ys) n (ver + 1))]
    | _ => False

theorem erel_append {μ : Mu} {ρ : Nat → Value} {L : LV} {w : World} {n : Nat} {xs ys : List AV} {olds news : List Value} (hx : ERel μ ρ L w n xs olds.toArray) (hy : ERel μ ρ L w n ys news.toArray)
    (hl : olds.length = xs.length * n) {C : Array Value} (hC : C.toList.take (olds.length + news.length) = olds ++ news) : ERel μ ρ L w n (xs ++ ys) C := by
  have hget : ∀ k u, (olds ++ news)[k]? = some u → C[k]? = some u := fun k u hu => by
    rw [← hC] at hu
    rw [List.getElem?_take] at hu
    split at hu
    · simpa using hu
    · cases hu
  refine ⟨fun j y h => ?_, fun j y h q v hv => ?_⟩
  · by_cases hj : j < xs.length
    · rw [List.getElem?_append_left hj] at h; exact hx.1 j y h
    · rw [List.getElem?_append_right (by omega)] at h; exact hy.1 _ y h
  · by_cases hj : j < xs.length
    · rw [List.getElem?_append_left hj] at h
      obtain ⟨c, h1, h2⟩ := hx.2 j y h q v hv
      refine ⟨c, hget _ _ ?_, h2⟩
      have := (Array.getElem?_eq_some_iff.1 h1).1
      rw [List.getElem?_append_left (by simpa using this)]
      simpa using h1
    · rw [List.getElem?_append_right (by omega)] at h
      obtain ⟨c, h1, h2⟩ := hy.2 _ y h q v hv
      refine ⟨c, hget _ _ ?_, h2⟩
      have e1 : j * n = xs.length * n + (j - xs.length) * n := by rw [← Nat.add_mul]; congr 1; omega
      rw [List.getElem?_append_right (by omega), hl, e1, show xs.length * n + (j - xs.length) * n + q - xs.length * n = (j - xs.length) * n + q by omega]
      simpa using h1

theorem execAppend {t : TypeId} {s x : Operand} (ho : o.op = .call { callee := .builtin .append, args := #[s, x], argTypes := #[t, t] }) (a : Act) {P : Program} {w w' : World} {v : Value}
    (h : (Builtin.append_ #[t, t] o.type #[a.eval s, a.eval x]).run P w = .ok v w') : (execOp a.eval o).run P w = .ok (.value v) w' := by
  simp [execOp, ho, resolve, invoke, builtin, h]
end
end Go.Proofs.YtndoembhbfiokaaGreatDoor.Am
/- append: sound. -/
set_option linter.unusedVariables false
set_option linter.unusedSimpArgs false
namespace Go.Proofs.YtndoembhbfiokaaGreatDoor.Am
open Go.RowKit

section
variable {X : Ctx} {N : Nat} {o : Oper} {r : Regs} {H : AH} {K : Post}

theorem owned_new {w w' : World} {e : TypeId} {size n : Nat} {v : Value} {xs : List Value} (h : w'.ownsRow w.heap.size e size v n xs) (hn : 0 < n) (hg : w.grownBy w' none) :
    ∃ g cap cur, v = .slice (some ⟨g, 0, none⟩) n cap ∧ w.heap.size ≤ g ∧ w'.heap[g]? = some (.cells cur e (0, 0)) ∧ n ≤ cap ∧ cur.size = cap * size ∧ cur.toList.take (n * size) = xs ∧ xs.length = n * size ∧ Below w.heap.size w w' := by
  obtain ⟨hl, ⟨_, h0⟩ | ⟨g, cap, cur, rfl, h1, h2, h3, _, h4, h5⟩⟩ := h
  · omega
  · exact ⟨g, cap, cur, rfl, h1, h2, h3, h4, h5, hl, ⟨hg.os, hg.tape, hg.output, hg.size, fun k hk => hg.block k hk (by simp)⟩⟩

/-- The base's cells where it is read only. -/
theorem csl_src {μ : Mu} {ρ : Nat → Value} {L : LV} {w : World} {xs : List AV} {c : Value} (h : VRel μ ρ L w (.csl xs) c) {n : Nat} (hn : ∀ x ∈ xs, x.cells.length = n) :
    ∃ a, c = .slice a xs.length xs.length ∧ ∃ olds : List Value, olds.length = xs.length * n ∧ (∀ b, a = some b → 0 < xs.length → ∀ (j : Nat) (u : Value), olds[j]? = some u → w.cell? (b.add j) = some u) ∧ (a = none → xs = []) ∧ ERel μ ρ L w n xs olds.toArray := by
  cases h with
  | csl0 a => exact ⟨a, rfl, [], by simp, fun b _ h => by simp at h, fun _ => rfl, ⟨fun j y h => by simp at h, fun j y h => by simp at h⟩⟩
  | csl _ b o sz f hL hb hz hc hr =>
    rcases Nat.eq_zero_or_pos xs.length with h0 | hpos
    · obtain rfl := List.eq_nil_of_length_eq_zero h0
      exact ⟨_, rfl, [], by simp, fun b _ h => by simp at h, fun _ => rfl, ⟨fun j y h => by simp at h, fun j y h => by simp at h⟩⟩
    · have hsz : sz = n := by rw [← hz 0 hpos]; exact hn _ (List.getElem_mem hpos)
      subst hsz
      obtain ⟨olds, h1, h2, h3⟩ := src_of_f (fun j y hy => hn y (List.mem_of_getElem? hy)) hc hr
      exact ⟨_, rfl, olds, h1, (fun b' hb' _ => by cases hb'; exact h2), (fun h => by cases h), h3⟩

/-- append where it must grow: whatever the base's address. -/
theorem grow_any {P : Program} {w : World} {t e ty : TypeId} {n by_ : Nat} (hap : apOf P t = some (e, n, by_)) {ao : Option Addr} {l cap : Nat} {olds : List Value} (hlo : olds.length = l * n)
    (holds : ∀ b, ao = some b → 0 < l → ∀ (j : Nat) (u : Value), olds[j]? = some u → w.cell? (b.add j) = some u) (hnone : ao = none → l = 0 ∧ cap = 0)
    {ad : Addr} {m c : Nat} {news : List Value} (hl : news.length = m * n) (hnews : ∀ (j : Nat) (u : Value), news[j]? = some u → w.cell? (ad.add j) = some u) (h1c : ∀ u ∈ news, u.oneCell' = true) (hm : 0 < m)
    (hg : cap < l + m) (hbytes : (l + m) * by_ ≤ 140737488355328) :
    ∃ g cap' cur w', (Builtin.append_ #[t, t] ty #[.slice ao l cap, .slice (some ad) m c]).run P w = .ok (.slice (some ⟨g, 0, none⟩) (l + m) cap') w' ∧ w.heap.size ≤ g ∧ w'.heap[g]? = some (.cells cur e (0, 0)) ∧
      l + m ≤ cap' ∧ cur.size = cap' * n ∧ cur.toList.take (olds.length + news.length) = olds ++ news ∧ Below w.heap.size w w' := by
  obtain ⟨hu, i, z, hi, hz, hsz, hby, hzc, hn0, hb0⟩ := apOf_spec hap
  have hmax : l + m ≤ maxLen := by
    have : (l + m) * 1 ≤ (l + m) * by_ := Nat.mul_le_mul_left _ hb0
    simp only [maxLen]; omega
  have fin : ∀ v' w', (Builtin.append_ #[t, t] ty #[.slice ao l cap, .slice (some ad) m c]).run P w = .ok v' w' → w'.ownsRow w.heap.size e n v' (l + m) (olds ++ news) → w.grownBy w' none →
      ∃ g cap' cur w', (Builtin.append_ #[t, t] ty #[.slice ao l cap, .slice (some ad) m c]).run P w = .ok (.slice (some ⟨g, 0, none⟩) (l + m) cap') w' ∧ w.heap.size ≤ g ∧ w'.heap[g]? = some (.cells cur e (0, 0)) ∧
      l + m ≤ cap' ∧ cur.size = cap' * n ∧ cur.toList.take (olds.length + news.length) = olds ++ news ∧ Below w.heap.size w w' := by
    intro v' w' hr ho hgr
    obtain ⟨g, cap', cur, rfl, h1, h2, h3, h4, h5, h6, h7⟩ := owned_new ho (by omega) hgr
    exact ⟨g, cap', cur, w', hr, h1, h2, h3, h4, by rw [hlo, hl, ← Nat.add_mul]; exact h5, h7⟩
  cases ao with
  | some b =>
    rcases Nat.eq_zero_or_pos l with h0 | hpos
    · subst h0
      obtain rfl : olds = [] := List.eq_nil_of_length_eq_zero (by simpa using hlo)
      obtain ⟨v', w', hr, ho, hgr⟩ := run_append_arg_grows (P := P) w t ty e i z n by_ hu hi hz hsz hby hzc hn0 b 0 cap [] (by simp) (fun j u h => by simp at h) ad m c news hl hnews hg hmax hbytes
      exact fin v' w' hr ho hgr
    · obtain ⟨v', w', hr, ho, hgr⟩ := run_append_arg_grows (P := P) w t ty e i z n by_ hu hi hz hsz hby hzc hn0 b l cap olds hlo (holds b rfl hpos) ad m c news hl hnews hg hmax hbytes
      exact fin v' w' hr ho hgr
  | none =>
    obtain ⟨rfl, rfl⟩ := hnone rfl
    obtain rfl : olds = [] := List.eq_nil_of_length_eq_zero (by simpa using hlo)
    obtain ⟨v', w', hr, ho, hgr, _⟩ := run_append_own (P := P) w w.heap.size t ty e i z n by_ hu hi hz hsz hby hzc hn0 (.slice none 0 0) 0 [] (World.ownsRow_nil w _ e n) ad m c news hl hnews h1c hmax hbytes (Nat.le_refl _)
    exact fin v' w' hr ho hgr

theorem ones_of {μ : Mu} {ρ : Nat → Value} {L : LV} {w : World} {n : Nat} {ys : List AV} {news : List Value} (hE : ERel μ ρ L w n ys news.toArray) (hl : news.length = ys.length * n)
    (h : ∀ y ∈ ys, y.cells.length = n ∧ y.cells.all AV.one = true) : ∀ u ∈ news, u.oneCell' = true := by
  intro u hu
  obtain ⟨k, hk⟩ := List.getElem?_of_mem hu
  have hkl := (List.getElem?_eq_some_iff.1 hk).1
  have hn0 : 0 < n := by rcases Nat.eq_zero_or_pos n with h0 | h0; · subst h0; simp at hl; subst hl; simp at hkl
                         · exact h0
  have hj : k / n < ys.length := by rw [Nat.div_lt_iff_lt_mul hn0]; omega
  have hy := h _ (List.getElem_mem hj)
  have hq : k % n < (ys[k / n].cells).length := by rw [hy.1]; exact Nat.mod_lt _ hn0
  obtain ⟨c, h1, h2⟩ := hE.2 (k / n) _ (List.getElem?_eq_getElem hj) (k % n) _ (List.getElem?_eq_getElem hq)
  rw [Nat.div_add_mod'] at h1
  simp only [List.getElem?_toArray] at h1
  rw [hk] at h1
  rw [Option.some.inj h1]
  exact (h2.one (List.all_eq_true.1 hy.2 _ (List.getElem_mem hq))).1

/-- A row gets a new version, in a block that is new or its own. -/
theorem verRow {X : Ctx} {μ : Mu} {ρ : Nat → Value} {w0 w w' : World} {H : AH} (hW : WRel X μ ρ w0 H w) {id ver sz : Nat} {xs ys : List AV} (hH : H id = .row xs sz ver)
    (hsize : w.heap.size ≤ w'.heap.size) (hrest : w'.os = w.os ∧ w'.tape = w.tape ∧ w'.output = w.output) {b : Nat}
    (hother : ∀ k, k < w.heap.size → k ≠ b → w'.heap[k]? = w.heap[k]?) (hshape : ∀ k, k < w.heap.size → w'.shape? k = w.shape? k) (hbb : w.heap.size ≤ b ∨ ∃ sz', μ id ver = some (b, sz'))
    {C : Array Value} {e : TypeId} {fz : Nat × Nat} (hh : w'.heap[b]? = some (.cells C e fz)) (hfz : FzOK fz C.size) (hlen : ys.length * sz ≤ C.size)
    (hE : ERel μ ρ (Live μ H) w sz ys C) :
    ∃ μ', Ext μ (Live μ H) w μ' (Live μ' (H.put id (.row ys sz (ver + 1)))) w' ∧ WRel X μ' ρ w0 (H.put id (.row ys sz (ver + 1))) w' ∧ μ' id (ver + 1) = some (b, sz) := by
  let μ' : Mu := fun i v => if i = id ∧ v = ver + 1 then some (b, sz) else μ i v
  have hs := hW.slot id
  rw [hH] at hs
  have hμ0 : μ' id (ver + 1) = some (b, sz) := by simp [μ']
  have hμne : ∀ i, i ≠ id → ∀ v, μ' i v = μ i v := fun i hi v => by simp [μ', hi]
  have hblk : ∀ i, i ≠ id → ∀ s, blk μ' i s = blk μ i s := fun i hi s => by cases s <;> simp [blk, hμne i hi]
  have hbge : w0.heap.size ≤ b := by
    rcases hbb with h | ⟨sz', h⟩
    · exact Nat.le_trans hW.below.size h
    · exact (hW.live_ge ⟨id, by simp [hH, blk, h]⟩).1
  have hboth : ∀ i, i ≠ id → ∀ c, blk μ i (H i) = some c → c ≠ b := fun i hi c hc hcb => by
    subst hcb
    rcases hbb with h | ⟨sz', h⟩
    · have := ((hW.slot i).blk_ge hc).2; omega
    · exact hi (hW.inj i id c hc (by simp [hH, blk, h]))
  have hx : Ext μ (Live μ H) w μ' (Live μ' (H.put id (.row ys sz (ver + 1)))) w' := by
    refine ⟨fun i v x h => ?_, hsize, fun c hc hn => hother c hc (fun h => ?_), hshape, fun c hc => ?_, put_ids (by simp)⟩
    · by_cases hi : i = id ∧ v = ver + 1
      · obtain ⟨rfl, rfl⟩ := hi
        rw [hs.1 _ (Nat.lt_succ_self _)] at h; cases h
      · simp only [μ', if_neg hi]; exact h
    · subst h
      rcases hbb with h | ⟨sz', h⟩
      · omega
      · exact hn ⟨id, by simp [hH, blk, h]⟩
    · obtain ⟨i, hi⟩ := hc
      by_cases hid : i = id
      · subst hid
        rw [AH.put_same] at hi
        simp only [blk, hμ0, Option.map_some, Option.some.injEq] at hi
        subst hi
        rcases hbb with h | ⟨sz', h⟩
        · exact .inr h
        · exact .inl ⟨i, by simp [hH, blk, h]⟩
      · rw [AH.put_ne _ _ hid, hblk i hid] at hi
        exact .inl ⟨i, hi⟩
  have hbel : Below w0.heap.size w0 w' := hW.below.trans ⟨hrest.1, hrest.2.1, hrest.2.2, hsize, fun k hk => hother k (Nat.lt_of_lt_of_le hk hW.below.size) (by omega)⟩
  refine ⟨μ', hx, ?_, hμ0⟩
  refine hW.put id _ hx hbel hμne (fun i hi c hc => hother c ((hW.slot i).blk_ge hc).2 (hboth i hi c hc)) ?_ (fun c hc i hi hc' => ?_)
  · refine ⟨fun v hv => ?_, .inr ⟨b, C, e, fz, hμ0, hbge, hh, hfz, hlen, fun j h => hE.1 j _ (List.getElem?_eq_getElem h), fun j h q hq => ?_⟩⟩
    · have : v ≠ ver + 1 := by omega
      simp only [μ', this, and_false, if_false]
      exact hs.1 v (by omega)
    · obtain ⟨c, h1, h2⟩ := hE.2 j _ (List.getElem?_eq_getElem h) q _ (List.getElem?_eq_getElem hq)
      exact ⟨c, h1, h2.mono hx⟩
  · simp only [blk, hμ0, Option.map_some, Option.some.injEq] at hc
    exact hboth i hi c hc' hc.symm

/-- A row of no elements that has no block yet. -/
theorem voidRow {X : Ctx} {μ : Mu} {ρ : Nat → Value} {w0 w : World} {H : AH} (hW : WRel X μ ρ w0 H w) {id ver sz : Nat} (h : ∀ v, ver ≤ v → μ id v = none) (hH : blk μ id (H id) = none) :
    Ext μ (Live μ H) w μ (Live μ (H.put id (.row [] sz ver))) w ∧ WRel X μ ρ w0 (H.put id (.row [] sz ver)) w := by
  have hx : Ext μ (Live μ H) w μ (Live μ (H.put id (.row [] sz ver))) w := by
    refine ⟨fun _ _ _ h => h, Nat.le_refl _, fun _ _ _ => rfl, fun _ _ => rfl, fun c hc => ?_, put_ids (by simp)⟩
    obtain ⟨i, hi⟩ := hc
    by_cases hid : i = id
    · subst hid; rw [AH.put_same] at hi; simp [blk, h ver (Nat.le_refl _)] at hi
    · rw [AH.put_ne _ _ hid] at hi; exact .inl ⟨i, hi⟩
  refine ⟨hx, hW.put id _ hx hW.below (fun _ _ _ => rfl) (fun _ _ _ _ => rfl) ⟨fun v hv => h v (by omega), .inl ⟨rfl, h ver (Nat.le_refl _)⟩⟩ (fun c hc => ?_)⟩
  simp [blk, h ver (Nat.le_refl _)] at hc
end
end Go.Proofs.YtndoembhbfiokaaGreatDoor.Am
/- append: its rule. -/
set_option linter.unusedVariables false
set_option linter.unusedSimpArgs false
namespace Go.Proofs.YtndoembhbfiokaaGreatDoor.Am
open Go.RowKit

theorem VRel.csl_fsl {μ : Mu} {ρ : Nat → Value} {L : LV} {w : World} {xs : List AV} {c : Value} (h : VRel μ ρ L w (.csl xs) c) : VRel μ ρ L w (.fsl xs) c := by
  cases h with
  | csl0 a => exact .fsl0 a 0
  | csl _ b o sz f hL hb hz hc hr => exact .fsl xs b o sz _ f hL hb (Nat.le_refl _) hz hc hr

section
variable {X : Ctx} {N : Nat} {o : Oper} {r : Regs} {H : AH} {K : Post}

theorem below_shape {w w' : World} (hb : Below w.heap.size w w') : ∀ k, k < w.heap.size → w'.shape? k = w.shape? k := fun k hk => by simp only [World.shape?, hb.block k hk]

theorem aAppend_sound {lv : Bool} {t : TypeId} {s x : Operand} (ho : o.op = .call { callee := .builtin .append, args := #[s, x], argTypes := #[t, t] })
    (h : aAppend X lv t (r.ev s) (r.ev x) H K) : ∃ v rd wr, K v rd wr ∧ Local X N o r H v rd wr := by
  obtain ⟨e, n, by_, hap, h⟩ := h
  obtain ⟨hu, inf, z, hi, hz, hsz, hby, hzc, hn0, hb0⟩ := apOf_spec hap
  obtain ⟨ys, rd, ⟨hys, h⟩, hsrc⟩ := aSrc_spec h
  have opn : ∀ (r' : Regs), (∀ z ∈ o.op.operands.toList, r'.ev z = r.ev z) → ∀ (H' : AH) μ ρ w0 a w, Rel X N μ ρ w0 r' H' a w →
      VRel μ ρ (Live μ H') w (r.ev s) (a.eval s) ∧ VRel μ ρ (Live μ H') w (r.ev x) (a.eval x) := fun r' hr' H' μ ρ w0 a w hR => by
    have hx := hR.ev s
    have hy := hR.ev x
    rw [hr' _ (by simp [ho, Op.operands, Call.operands])] at hx hy
    exact ⟨hx, hy⟩
  have hysl : ∀ y ∈ ys, y.cells.length = n := fun y hy => (hys y hy).1
  split at h
  · rename_i xs hs
    rw [hs] at opn
    obtain ⟨hxs, hbound, h⟩ := h
    by_cases hlv : lv = true
    · rw [if_pos hlv] at h
      obtain ⟨hne, hnx, hK⟩ := h
      refine ⟨_, _, _, hK, by simp, fun r' H' hr' hH' μ ρ w0 a w hR => ?_⟩
      have hnx' : H' H.nx = .free := by rw [hH' _ (by simp), hnx]
      obtain ⟨hvs, hvx⟩ := opn r' hr' H' μ ρ w0 a w hR
      obtain ⟨ax, cap, hcx, hcap, hnews⟩ := hsrc H' (fun i hi => hH' i (by simp [hi])) μ ρ w0 w _ hR.world hvx n hysl
      obtain ⟨as, hcs, olds, hol, holds, hnil, hEo⟩ := csl_src hvs hxs
      rcases Nat.eq_zero_or_pos ys.length with h0 | hpos
      · obtain rfl := List.eq_nil_of_length_eq_zero h0
        obtain rfl : xs = [] := hne.resolve_right (by simp)
        have hfree := hR.world.slot H.nx
        rw [hnx'] at hfree
        obtain ⟨hx, hW'⟩ := voidRow hR.world (id := H.nx) (ver := 0) (sz := n) (fun v _ => hfree v) (by simp [hnx', blk])
        refine ⟨.value (.slice as 0 0), _, w, μ, execAppend ho a ?_, .inl rfl, hx, hW', ?_⟩
        · rw [hcs, hcx]; exact run_append_zero hu hi _ _ _ _ _ (Nat.le_refl _)
        · exact .sl0 _ _ _ _ (by show AH.get _ _ ≠ .free; simp [AH.upd, AH.put_same])
      · obtain ⟨b, o', rfl, news, hnl, hnc, hE⟩ := hnews hpos
        obtain ⟨g, cap', cur, w', hr, hge, hh, hle, hcsz, htake, hbw⟩ := grow_any (P := X.P) (w := w) (ty := o.type) hap (ao := as) (l := xs.length) (cap := xs.length) hol holds (fun h => by simp [hnil h]) hnl hnc (ones_of hE hnl hys) hpos (by omega) hbound (c := cap)
        have hEa := erel_append hEo hE hol htake
        obtain ⟨μ', hx, hW', hμ⟩ := fresh_row hR.world (id := H.nx) hnx' hbw hge hh (by simp) (xs := xs ++ ys) (sz := n) (by rw [hcsz, List.length_append]; exact Nat.mul_le_mul_right _ hle) hEa
        refine ⟨_, _, w', μ', execAppend ho a (by rw [hcs, hcx]; exact hr), .inl rfl, hx, hW', ?_⟩
        have := VRel.sl (μ := μ') (ρ := ρ) (L := Live μ' (H'.upd [(H.nx, .row (xs ++ ys) n 0)])) (w := w') H.nx 0 0 (xs.length + ys.length) g n cap' e cur.size hμ hle (by simp only [World.shape?, hh]) (by simp [hcsz])
        simpa using this
    · rw [if_neg hlv] at h
      refine ⟨_, _, _, h, by simp, fun r' H' hr' hH' μ ρ w0 a w hR => ?_⟩
      obtain ⟨hvs, hvx⟩ := opn r' hr' H' μ ρ w0 a w hR
      obtain ⟨ax, cap, hcx, hcap, hnews⟩ := hsrc H' hH' μ ρ w0 w _ hR.world hvx n hysl
      obtain ⟨as, hcs, olds, hol, holds, hnil, hEo⟩ := csl_src hvs hxs
      rcases Nat.eq_zero_or_pos ys.length with h0 | hpos
      · obtain rfl := List.eq_nil_of_length_eq_zero h0
        refine ⟨.value (a.eval s), a.eval s, w, μ, execAppend ho a ?_, .inl rfl, .refl _ _ _, hR.world, ?_⟩
        · rw [hcs, hcx]; exact run_append_zero hu hi _ _ _ _ _ (Nat.le_refl _)
        · rw [List.append_nil]; exact hvs.csl_fsl
      · obtain ⟨b, o', rfl, news, hnl, hnc, hE⟩ := hnews hpos
        obtain ⟨g, cap', cur, w', hr, hge, hh, hle, hcsz, htake, hbw⟩ := grow_any (P := X.P) (w := w) (ty := o.type) hap (ao := as) (l := xs.length) (cap := xs.length) hol holds (fun h => by simp [hnil h]) hnl hnc (ones_of hE hnl hys) hpos (by omega) hbound (c := cap)
        have hEa := erel_append hEo hE hol htake
        obtain ⟨hx, hW'⟩ := hR.world.grow hbw
        refine ⟨_, _, w', μ, execAppend ho a (by rw [hcs, hcx]; exact hr), .inl rfl, hx, hW', ?_⟩
        have := (vrel_fresh hR.world hbw (o := 0) hge hh hEa).2 cap' (by simpa using hle)
        simpa using this
  · rename_i id ver off len hs
    rw [hs] at opn
    obtain ⟨zs, rfl, hH, rfl, hbound, hK⟩ := h
    refine ⟨_, _, _, hK, by simp, fun r' H' hr' hH' μ ρ w0 a w hR => ?_⟩
    have hHid : H' id = .row zs n ver := by rw [hH' _ (by simp), hH]
    obtain ⟨hvs, hvx⟩ := opn r' hr' H' μ ρ w0 a w hR
    obtain ⟨ax, cap, hcx, hcap, hnews⟩ := hsrc H' (fun i hi => hH' i (by simp [hi])) μ ρ w0 w _ hR.world hvx n hysl
    have hslot := hR.world.slot id
    rw [hHid] at hslot
    -- the header: its address, its capacity, and its cells
    have hhead : ∃ as c, a.eval s = .slice as zs.length c ∧ zs.length ≤ c ∧ (as = none → zs.length = 0 ∧ c = 0) ∧
        ((zs = [] ∧ c = 0) ∨ ∃ b C e' fz, as = some ⟨b, 0, none⟩ ∧ μ id ver = some (b, n) ∧ w.heap[b]? = some (.cells C e' fz) ∧ c * n ≤ C.size) := by
      generalize hcv : a.eval s = cv at hvs
      generalize hzl : zs.length = zl at hvs
      cases hvs with
      | sl0 _ _ _ a0 => exact ⟨a0, 0, rfl, by omega, fun _ => ⟨rfl, rfl⟩, .inl ⟨List.eq_nil_of_length_eq_zero hzl, rfl⟩⟩
      | sl _ _ _ _ b sz' cp e' n' hμ hlen hshp hcp =>
        obtain ⟨rfl, hge, C, et, fz, hC, _⟩ := hR.world.row_at hHid hμ
        refine ⟨some ⟨b, 0 * sz', none⟩, cp, rfl, hlen, (fun h => by cases h), .inr ⟨b, C, et, fz, by rw [Nat.zero_mul], hμ, hC, ?_⟩⟩
        simp only [World.shape?, hC, Option.some.injEq, Prod.mk.injEq] at hshp
        rw [hshp.2]; simpa using hcp
    obtain ⟨as, c, hcs, hlc, hnil, hback⟩ := hhead
    have holds : ∃ olds : List Value, olds.length = zs.length * n ∧ (∀ b, as = some b → 0 < zs.length → ∀ (j : Nat) (u : Value), olds[j]? = some u → w.cell? (b.add j) = some u) ∧ ERel μ ρ (Live μ H') w n zs olds.toArray := by
      rcases hback with ⟨rfl, _⟩ | ⟨b, C, e', fz, rfl, hμ, hC, hcC⟩
      · exact ⟨[], by simp, fun b _ h => by simp at h, ⟨fun j y h => by simp at h, fun j y h => by simp at h⟩⟩
      · obtain ⟨_, hge, C', et, fz', hC', hfz, hCl, hEl, hEr⟩ := hR.world.row_at hHid hμ
        rw [hC] at hC'
        simp only [Option.some.injEq, Obj.cells.injEq] at hC'
        obtain ⟨rfl, rfl, rfl⟩ := hC'
        obtain ⟨olds, h1, h2, h3⟩ := src_of_f (μ := μ) (ρ := ρ) (w := w) (L := Live μ H') (ys := zs) (b := b) (o := 0) (n := n) (f := fun j q => (C[j * n + q]?).getD undef) (fun j y hy => by
            obtain ⟨hj, rfl⟩ := List.getElem?_eq_some_iff.1 hy; exact hEl j hj)
          (fun j hj q hq => by
            have hb : j * n + q < C.size := by
              have : (j + 1) * n ≤ zs.length * n := Nat.mul_le_mul_right _ hj
              rw [Nat.add_mul, Nat.one_mul] at this; omega
            simp [World.cell?, hC, hb])
          (fun j hj q hq => by
            obtain ⟨u, hu1, hu2⟩ := hEr j hj q hq
            simp only [hu1, Option.getD_some]; exact hu2)
        exact ⟨olds, h1, fun b' hb' _ => by cases hb'; exact h2, h3⟩
    obtain ⟨olds, hol, holds, hEo⟩ := holds
    rcases Nat.eq_zero_or_pos ys.length with h0 | hpos
    · obtain rfl := List.eq_nil_of_length_eq_zero h0
      have hr : (execOp a.eval o).run X.P w = .ok (.value (.slice as zs.length c)) w := execAppend ho a (by rw [hcs, hcx]; exact run_append_zero hu hi _ _ _ _ _ hlc)
      by_cases hμn : μ id ver = none
      · rcases hback with ⟨rfl, rfl⟩ | ⟨b, C, e', fz, _, hμ, _⟩
        · obtain ⟨hx, hW'⟩ := voidRow hR.world (id := id) (ver := ver + 1) (sz := n) (fun v hv => hslot.1 v (by omega)) (by simp [hHid, blk, hμn])
          exact ⟨_, _, w, μ, hr, .inl rfl, hx, hW', .sl0 _ _ _ _ (by show AH.get _ _ ≠ .free; simp [AH.upd, AH.put_same])⟩
        · rw [hμn] at hμ; cases hμ
      · obtain ⟨⟨b, sz'⟩, hμ⟩ := Option.ne_none_iff_exists'.1 hμn
        obtain ⟨rfl, hge, C', et, fz', hC', hfz, hCl, hEl, hEr⟩ := hR.world.row_at hHid hμ
        obtain ⟨μ', hx, hW', hμ'⟩ := verRow hR.world hHid (Nat.le_refl _) ⟨rfl, rfl, rfl⟩ (b := b) (fun _ _ _ => rfl) (fun _ _ => rfl) (.inr ⟨_, hμ⟩) hC' hfz (ys := zs ++ []) (by simpa using hCl)
          (by rw [List.append_nil]; exact ⟨fun j y hy => by obtain ⟨hj, rfl⟩ := List.getElem?_eq_some_iff.1 hy; exact hEl j hj, fun j y hy q v hv => by
            obtain ⟨hj, rfl⟩ := List.getElem?_eq_some_iff.1 hy
            obtain ⟨hq, rfl⟩ := List.getElem?_eq_some_iff.1 hv
            exact hEr j hj q hq⟩)
        refine ⟨_, _, w, μ', hr, .inl rfl, hx, hW', ?_⟩
        rcases hback with ⟨rfl, rfl⟩ | ⟨b', C, e', fz, rfl, hμ2, hC, hcC⟩
        · exact .sl0 _ _ _ _ (by show AH.get _ _ ≠ .free; simp [AH.upd, AH.put_same])
        · rw [hμ] at hμ2
          simp only [Option.some.injEq, Prod.mk.injEq, and_true] at hμ2
          subst hμ2
          have := VRel.sl (μ := μ') (ρ := ρ) (L := Live μ' (H'.upd [(id, .row (zs ++ []) sz' (ver + 1))])) (w := w) id (ver + 1) 0 zs.length b sz' c e' C.size hμ' hlc (by simp only [World.shape?, hC]) (by simpa using hcC)
          simpa using this
    · obtain ⟨b2, o2, rfl, news, hnl, hnc, hE⟩ := hnews hpos
      by_cases hroom : zs.length + ys.length ≤ c
      · rcases hback with ⟨rfl, rfl⟩ | ⟨b, C, e', fz, rfl, hμ, hC, hcC⟩
        · simp only [List.length_nil] at hroom; omega
        · obtain ⟨_, hge, C', et, fz', hC', hfz, hCl, hEl, hEr⟩ := hR.world.row_at hHid hμ
          rw [hC] at hC'
          simp only [Option.some.injEq, Obj.cells.injEq] at hC'
          obtain ⟨rfl, rfl, rfl⟩ := hC'
          have hroomC : zs.length * n + ys.length * n ≤ C.size := by
            have : (zs.length + ys.length) * n ≤ c * n := Nat.mul_le_mul_right _ hroom
            rw [Nat.add_mul] at this; omega
          have hcell : ∀ j, j < news.length → (w.cell? ⟨b, 0 + zs.length * n + j, none⟩).isSome = true := fun j hj => by
            have : zs.length * n + j < C.size := by omega
            simp [World.cell?, hC, this]
          have hfroz : ∀ j, j < news.length → w.frozen? ⟨b, 0 + zs.length * n + j, none⟩ = false := fun j hj => not_frozen hC (hfz.at _ (by omega))
          subst hsz
          have hr := run_append_room_cells (P := X.P) w t o.type e inf hu hi b 0 zs.length c ⟨b2, o2, none⟩ ys.length cap news hnl hnc (ones_of hE hnl hys) hroom hcell hfroz
          obtain ⟨D, hD, hDs, hDk⟩ := setCells_heap b news (0 + zs.length * inf.size) w C e' fz hC
          have hrest := setCells_rest b news (0 + zs.length * inf.size) w
          have hshape : ∀ k, k < w.heap.size → (w.setCells b (0 + zs.length * inf.size) news).shape? k = w.shape? k := fun k hk => by
            by_cases hkb : k = b
            · subst hkb; simp only [World.shape?, hC, hD, hDs]
            · simp only [World.shape?, setCells_other b news _ w k hkb]
          have htake : D.toList.take (olds.length + news.length) = olds ++ news := by
            apply List.ext_getElem?
            intro k
            rw [List.getElem?_take]
            split
            · rename_i hk
              rw [Array.getElem?_toList, hDk]
              by_cases hko : k < olds.length
              · rw [if_neg (by omega), List.getElem?_append_left hko]
                have h1 := holds _ rfl (by rcases Nat.eq_zero_or_pos zs.length with h | h; · rw [h] at hol; simp at hol; subst hol; simp at hko
                                           · exact h) k _ (List.getElem?_eq_getElem hko)
                rw [Addr.add_lit] at h1
                simp only [World.cell?, hC] at h1
                rw [List.getElem?_eq_getElem hko]
                simpa using h1
              · rw [if_pos (by omega), List.getElem?_append_right (by omega)]
                congr 1; omega
            · rename_i hk
              rw [List.getElem?_eq_none (by simp; omega)]
          have hEa := erel_append hEo hE hol htake
          obtain ⟨μ', hx, hW', hμ'⟩ := verRow hR.world hHid (by rw [hrest.2.2.2]; exact Nat.le_refl _) ⟨hrest.1, hrest.2.1, hrest.2.2.1⟩ (b := b) (fun k _ hk => setCells_other b news _ w k hk) hshape (.inr ⟨_, hμ⟩) hD (by rw [hDs]; exact hfz) (ys := zs ++ ys)
            (by rw [hDs, List.length_append, Nat.add_mul]; exact hroomC) hEa
          refine ⟨_, _, _, μ', execAppend ho a (by rw [hcs, hcx]; exact hr), .inl rfl, hx, hW', ?_⟩
          have := VRel.sl (μ := μ') (ρ := ρ) (L := Live μ' (H'.upd [(id, .row (zs ++ ys) inf.size (ver + 1))])) (w := w.setCells b (0 + zs.length * inf.size) news) id (ver + 1) 0 (zs.length + ys.length) b inf.size c e' D.size hμ' hroom
            (by simp only [World.shape?, hD]) (by rw [hDs]; simpa using hcC)
          simpa using this
      · obtain ⟨g, cap', cur, w', hr, hge, hh, hle, hcsz, htake, hbw⟩ := grow_any (P := X.P) (w := w) (ty := o.type) hap (ao := as) (l := zs.length) (cap := c) hol holds hnil hnl hnc (ones_of hE hnl hys) hpos (by omega) hbound (c := cap)
        have hEa := erel_append hEo hE hol htake
        obtain ⟨μ', hx, hW', hμ'⟩ := verRow hR.world hHid hbw.size ⟨hbw.os, hbw.tape, hbw.output⟩ (b := g) (fun k hk _ => hbw.block k hk) (below_shape hbw) (.inl hge) hh (by simp) (ys := zs ++ ys)
          (by rw [hcsz, List.length_append]; exact Nat.mul_le_mul_right _ hle) hEa
        refine ⟨_, _, w', μ', execAppend ho a (by rw [hcs, hcx]; exact hr), .inl rfl, hx, hW', ?_⟩
        have := VRel.sl (μ := μ') (ρ := ρ) (L := Live μ' (H'.upd [(id, .row (zs ++ ys) n (ver + 1))])) (w := w') id (ver + 1) 0 (zs.length + ys.length) g n cap' e cur.size hμ' hle (by simp only [World.shape?, hh]) (by simp [hcsz])
        simpa using this
  · exact h.elim
end
end Go.Proofs.YtndoembhbfiokaaGreatDoor.Am
