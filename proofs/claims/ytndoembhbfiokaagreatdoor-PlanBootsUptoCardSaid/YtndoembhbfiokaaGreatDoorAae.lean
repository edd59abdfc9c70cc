/- The logic and the contracts that the laws stand on, part 5. -/
import Derived.Test.YtndoembhbfiokaaGreatDoorAad
import Derived.Laws.Tables
import Derived.Laws.MakeOwn
/- Building values, making memory. -/
set_option linter.unusedVariables false
set_option linter.unusedSimpArgs false
namespace Go.Proofs.YtndoembhbfiokaaGreatDoor.Am
open Go.RowKit

def AV.good : AV → Bool
  | .any | .opq _ => false
  | _ => true
theorem AV.good_ne {v : AV} (h : v.good = true) : v ≠ .any ∧ ∀ k, v ≠ .opq k := by
  cases v <;> simp_all [AV.good]

/-- Cells one by one. -/
def CRel (μ : Mu) (ρ : Nat → Value) (L : LV) (w : World) (cs : List AV) (C : Array Value) : Prop :=
  C.size = cs.length ∧ ∀ (j : Nat) (v : AV), cs[j]? = some v → ∃ c, C[j]? = some c ∧ VRel μ ρ L w v c

section
variable {μ : Mu} {ρ : Nat → Value} {L : LV} {w : World}
theorem CRel.agg {cs : List AV} {C : Array Value} (h : CRel μ ρ L w cs C) : VRel μ ρ L w (.agg cs) (.agg C) :=
  .agg _ _ h.1 fun j h1 h2 => by
    obtain ⟨c, hc, hr⟩ := h.2 j _ (List.getElem?_eq_getElem h1)
    rw [Array.getElem?_eq_getElem h2] at hc
    rw [Option.some.inj hc]; exact hr
theorem VRel.crel {v : AV} {c : Value} (h : VRel μ ρ L w v c) (hg : v.good = true) : CRel μ ρ L w v.cells c.cells := by
  obtain ⟨h1, h2⟩ := h.cells (AV.good_ne hg).1 (AV.good_ne hg).2
  refine ⟨h1, fun j v hv => ?_⟩
  obtain ⟨hj, rfl⟩ := List.getElem?_eq_some_iff.1 hv
  exact ⟨c.cells[j]'(by omega), Array.getElem?_eq_getElem (by omega), h2 j hj (by omega)⟩
theorem CRel.of_agg {cs : List AV} {C : Array Value} (h : VRel μ ρ L w (.agg cs) (.agg C)) : CRel μ ρ L w cs C := by
  have := h.crel rfl
  simpa [AV.cells, Value.cells] using this
end

/-- Writing a row of values over cells. -/
theorem foldl_set (off : Nat) : ∀ (vs : List Value) (k : Nat) (C : Array Value), (((vs.zipIdx k).foldl (fun cs (x : Value × Nat) => cs.setIfInBounds (off + x.2) x.1) C).size = C.size) ∧
    ∀ j, ((vs.zipIdx k).foldl (fun cs (x : Value × Nat) => cs.setIfInBounds (off + x.2) x.1) C)[j]? =
      if off + k ≤ j ∧ j < off + k + vs.length ∧ j < C.size then vs[j - (off + k)]? else C[j]?
  | [], k, C => ⟨rfl, fun j => by simp; omega⟩
  | v :: vs, k, C => by
    simp only [List.zipIdx_cons, List.foldl_cons]
    obtain ⟨h1, h2⟩ := foldl_set off vs (k + 1) (C.setIfInBounds (off + k) v)
    refine ⟨by rw [h1]; simp, fun j => ?_⟩
    rw [h2 j]
    simp only [Array.size_setIfInBounds, List.length_cons]
    by_cases hj : j = off + k
    · subst hj
      by_cases hc : off + k < C.size
      · rw [if_neg (by omega), if_pos (by omega)]
        simp [hc]
      · rw [if_neg (by omega), if_neg (by omega), Array.setIfInBounds_eq_of_size_le (by omega)]
    · by_cases hin : off + (k + 1) ≤ j ∧ j < off + (k + 1) + vs.length ∧ j < C.size
      · rw [if_pos hin, if_pos (by omega)]
        obtain ⟨m, hm⟩ : ∃ m, j - (off + k) = m + 1 := ⟨j - (off + k) - 1, by omega⟩
        rw [hm, List.getElem?_cons_succ, show j - (off + (k + 1)) = m by omega]
      · rw [if_neg hin, if_neg (by omega), Array.getElem?_setIfInBounds_ne (by omega)]

def fillA (place : Nat → Option (Nat × Nat)) (cs : List AV) : List (Nat × AV) → Option (List AV)
  | [] => some cs
  | (i, v) :: rest =>
    match place i with
    | none => none
    | some (off, size) => if v.good = true ∧ v.cells.length = size ∧ off + size ≤ cs.length then fillA place (cs.take off ++ v.cells ++ cs.drop (off + size)) rest else none

theorem splice_get {α : Type} (cs ds : List α) (off j : Nat) (h : off + ds.length ≤ cs.length) :
    (cs.take off ++ ds ++ cs.drop (off + ds.length))[j]? = if off ≤ j ∧ j < off + ds.length then ds[j - off]? else cs[j]? := by
  rw [List.append_assoc]
  by_cases h1 : j < off
  · rw [if_neg (by omega), List.getElem?_append_left (by simp; omega), List.getElem?_take_of_lt h1]
  · rw [List.getElem?_append_right (by simp; omega)]
    simp only [List.length_take, Nat.min_eq_left (show off ≤ cs.length by omega)]
    by_cases h2 : j < off + ds.length
    · rw [if_pos (by omega), List.getElem?_append_left (by omega)]
    · rw [if_neg (by omega), List.getElem?_append_right (by omega), List.getElem?_drop]
      congr 1; omega

theorem fill_rel {μ : Mu} {ρ : Nat → Value} {L : LV} {w : World} (place : Nat → Option (Nat × Nat)) : ∀ (ps : List (Nat × AV)) (Ps : List (Nat × Value)) (cs : List AV) (C : Array Value) (ds : List AV),
    ps.length = Ps.length → (∀ (j : Nat) (p : Nat × AV) (q : Nat × Value), ps[j]? = some p → Ps[j]? = some q → p.1 = q.1 ∧ VRel μ ρ L w p.2 q.2) → CRel μ ρ L w cs C → fillA place cs ps = some ds →
    ∃ D, Instr.fill place C Ps = some D ∧ CRel μ ρ L w ds D
  | [], [], cs, C, ds, _, _, hC, h => by
    simp only [fillA, Option.some.injEq] at h
    subst h
    exact ⟨C, rfl, hC⟩
  | [], _ :: _, _, _, _, hl, _, _, _ => by simp at hl
  | _ :: _, [], _, _, _, hl, _, _, _ => by simp at hl
  | (i, v) :: ps, (i', c) :: Ps, cs, C, ds, hl, hp, hC, h => by
    obtain ⟨rfl, hv⟩ := hp 0 _ _ rfl rfl
    simp only [fillA] at h
    cases hpl : place i with
    | none => simp [hpl] at h
    | some os =>
      obtain ⟨off, size⟩ := os
      simp only [hpl] at h
      split at h
      · rename_i hcond
        obtain ⟨hg, hsz, hle⟩ := hcond
        have hcr := hv.crel hg
        obtain ⟨f1, f2⟩ := foldl_set off c.cells.toList 0 C
        have hzip : (c.cells.zipIdx.foldl (fun cs x => cs.setIfInBounds (off + x.2) x.1) C) = (c.cells.toList.zipIdx 0).foldl (fun cs (x : Value × Nat) => cs.setIfInBounds (off + x.2) x.1) C := by
          rw [← Array.foldl_toList]; simp
        have hcs : c.cells.size = size := by rw [hcr.1]; exact hsz
        have hC' : CRel μ ρ L w (cs.take off ++ v.cells ++ cs.drop (off + size)) (c.cells.zipIdx.foldl (fun cs x => cs.setIfInBounds (off + x.2) x.1) C) := by
          rw [hzip]
          refine ⟨by rw [f1, hC.1]; simp; omega, fun j u hu => ?_⟩
          rw [← hsz, splice_get _ _ _ _ (by omega)] at hu
          rw [f2 j]
          simp only [Nat.add_zero, Array.length_toList, hcs]
          split at hu
          · rename_i hj
            obtain ⟨u', h1, h2⟩ := hcr.2 _ _ hu
            rw [if_pos ⟨by omega, by omega, by rw [hC.1]; omega⟩]
            exact ⟨u', by simpa using h1, h2⟩
          · rename_i hj
            rw [if_neg (by omega)]
            exact hC.2 _ _ hu
        obtain ⟨D, hD, hrel⟩ := fill_rel place ps Ps _ _ ds (by simpa using hl) (fun j p q h1 h2 => hp (j + 1) p q h1 h2) hC' h
        refine ⟨D, ?_, hrel⟩
        have hnot : ¬ (c.cells.size ≠ size ∨ off + c.cells.size > C.size) := by rw [hcs, hC.1]; omega
        simp only [Instr.fill, hpl]
        rw [if_neg (by simpa using hnot)]
        exact hD
      · cases h

/-- Where a struct's or an array's parts stand, and the zero value's cells. -/
def plcOf (P : Program) (t : TypeId) : Option (List (Nat × Nat) × List AV) :=
  match P.underlying t with
  | some (.struct fs) => (fs.toList.mapM fun f => (P.info? f.type).map fun i => (f.offset, i.size)).bind fun pl => ((P.info? t).bind (·.zero)).map fun z => (pl, (avOf (.agg z.cells)).cells)
  | some (.array n e) => (P.info? e).bind fun ie => ((P.info? t).bind (·.zero)).map fun z => ((List.range n).map fun i => (i * ie.size, ie.size), (avOf (.agg z.cells)).cells)
  | _ => none

theorem crel_avOf {μ : Mu} {ρ : Nat → Value} {L : LV} {w : World} (C : Array Value) : CRel μ ρ L w (avOf (.agg C)).cells C := by
  have := CRel.of_agg (μ := μ) (ρ := ρ) (L := L) (w := w) (cs := (avOf (.agg C)).cells) (C := C) (by simpa [avOf, AV.cells] using avOf_rel μ ρ L w (.agg C))
  exact this

theorem fill_congr {p q : Nat → Option (Nat × Nat)} : ∀ (ps : List (Nat × Value)) (C D : Array Value), (∀ i x, p i = some x → q i = some x) → Instr.fill p C ps = some D → Instr.fill q C ps = some D
  | [], C, D, _, h => h
  | (i, v) :: ps, C, D, hpq, h => by
    simp only [Instr.fill] at h ⊢
    cases hp : p i with
    | none => simp [hp] at h
    | some x =>
      obtain ⟨off, size⟩ := x
      simp only [hp] at h
      rw [hpq i _ hp]
      simp only
      split at h
      · cases h
      · rename_i hc
        rw [if_neg hc]
        exact fill_congr ps _ D hpq h

def aBuild (X : Ctx) (t : TypeId) (parts : List (Nat × AV)) (K : Post) : Prop :=
  ∃ pl z, plcOf X.P t = some (pl, z) ∧ ∃ cs, fillA (fun i => pl[i]?) z parts = some cs ∧ K (.agg cs) [] []

section
variable {X : Ctx} {N : Nat} {o : Oper} {r : Regs} {H : AH} {K : Post}

theorem aBuild_sound {t : TypeId} {parts : Array (Nat × Operand)} (ho : o.op = .build t parts) (h : aBuild X t (parts.toList.map fun p => (p.1, r.ev p.2)) K) :
    ∃ v rd wr, K v rd wr ∧ Local X N o r H v rd wr := by
  obtain ⟨pl, z, hpl, cs, hf, hK⟩ := h
  refine ⟨_, _, _, hK, local_pure fun r' hr' H' μ ρ w0 a w hR => ?_⟩
  have hparts : ∀ (j : Nat) (p : Nat × AV) (q : Nat × Value), (parts.toList.map fun p => (p.1, r.ev p.2))[j]? = some p → ((parts.map fun (i, x) => (i, a.eval x)).toList)[j]? = some q → p.1 = q.1 ∧ VRel μ ρ (Live μ H') w p.2 q.2 := by
    intro j p q hp hq
    simp only [List.getElem?_map, Array.toList_map, Option.map_eq_some_iff] at hp hq
    obtain ⟨y, hy, rfl⟩ := hp
    obtain ⟨y', hy', rfl⟩ := hq
    rw [hy] at hy'
    obtain rfl := Option.some.inj hy'
    refine ⟨rfl, ?_⟩
    have hm : y.2 ∈ o.op.operands.toList := by
      have h1 : y ∈ parts.toList := List.mem_of_getElem? hy
      simp only [ho, Op.operands]
      exact List.mem_map.2 ⟨y, h1, rfl⟩
    rw [← hr' _ hm]
    exact hR.ev _
  have key : ∃ D, X.P.built t ((parts.map fun (i, x) => (i, a.eval x)).toList) = some D ∧ CRel μ ρ (Live μ H') w cs D := by
    unfold plcOf at hpl
    split at hpl
    · rename_i fs hu
      simp only [Option.bind_eq_some_iff, Option.map_eq_some_iff, Prod.mk.injEq] at hpl
      obtain ⟨pl', hm, zz, ⟨it, hi, hz⟩, rfl, rfl⟩ := hpl
      obtain ⟨D, hD, hrel⟩ := fill_rel _ _ ((parts.map fun (i, x) => (i, a.eval x)).toList) _ zz.cells cs (by simp) hparts (crel_avOf _) hf
      exact ⟨D, by simp only [Program.built, hi, hu, hz, hm]; simpa using hD, hrel⟩
    · rename_i n e hu
      simp only [Option.bind_eq_some_iff, Option.map_eq_some_iff, Prod.mk.injEq] at hpl
      obtain ⟨ie, hie, zz, ⟨it, hi, hz⟩, rfl, rfl⟩ := hpl
      obtain ⟨D, hD, hrel⟩ := fill_rel _ _ ((parts.map fun (i, x) => (i, a.eval x)).toList) _ zz.cells cs (by simp) hparts (crel_avOf _) hf
      refine ⟨D, ?_, hrel⟩
      simp only [Program.built, hi, hu, hz, hie]
      refine fill_congr _ _ _ (fun i x hx => ?_) hD
      simp only [List.getElem?_map, Option.map_eq_some_iff] at hx
      obtain ⟨k, hk, rfl⟩ := hx
      obtain ⟨hk1, hk2⟩ := List.getElem?_eq_some_iff.1 hk
      simp only [List.getElem_range] at hk2
      subst hk2
      rfl
    · cases hpl
  obtain ⟨D, hD, hrel⟩ := key
  have he : execOp a.eval o = (do pure (Next.value (← Instr.build t (parts.map fun (i, x) => (i, a.eval x))))) := by unfold execOp; rw [ho]
  refine ⟨.agg D, ?_, hrel.agg⟩
  rw [he, Sem.run_bind, run_build w t _ D hD]
  rfl
end
end Go.Proofs.YtndoembhbfiokaaGreatDoor.Am
/- Memory that is made, and memory that is written. -/
set_option linter.unusedVariables false
set_option linter.unusedSimpArgs false
namespace Go.Proofs.YtndoembhbfiokaaGreatDoor.Am
open Go.RowKit

/-- Elements, cell by cell, in a row of cells. -/
def ERel (μ : Mu) (ρ : Nat → Value) (L : LV) (w : World) (sz : Nat) (xs : List AV) (C : Array Value) : Prop :=
  (∀ (j : Nat) (x : AV), xs[j]? = some x → x.cells.length = sz) ∧
  ∀ (j : Nat) (x : AV), xs[j]? = some x → ∀ (q : Nat) (v : AV), x.cells[q]? = some v → ∃ c, C[j * sz + q]? = some c ∧ VRel μ ρ L w v c

theorem below_ext {X : Ctx} {μ : Mu} {ρ : Nat → Value} {w0 w w' : World} {H : AH} (hW : WRel X μ ρ w0 H w) (hb : Below w.heap.size w w') :
    Ext μ (Live μ H) w μ (Live μ H) w' := (hW.grow hb).1

theorem vrel_fresh {X : Ctx} {μ : Mu} {ρ : Nat → Value} {w0 w w' : World} {H : AH} (hW : WRel X μ ρ w0 H w) (hb : Below w.heap.size w w') {b o : Nat} {C : Array Value} {e : TypeId} {fz : Nat × Nat}
    (hge : w.heap.size ≤ b) (hh : w'.heap[b]? = some (.cells C e fz)) {xs : List AV} {sz : Nat} (hE : ERel μ ρ (Live μ H) w sz xs C) :
    VRel μ ρ (Live μ H) w' (.csl xs) (.slice (some ⟨b, 0, none⟩) xs.length xs.length) ∧ ∀ cap, xs.length ≤ cap → VRel μ ρ (Live μ H) w' (.fsl xs) (.slice (some ⟨b, 0, none⟩) xs.length cap) := by
  have hx := below_ext hW hb
  have hL : ¬ Live μ H b := fun h => by have := (hW.live_ge h).2; omega
  have hlt : b < w'.heap.size := (Array.getElem?_eq_some_iff.1 hh).1
  have hf : ∃ f : Nat → Nat → Value, ∀ j (hj : j < xs.length) q (hq : q < xs[j].cells.length), C[j * sz + q]? = some (f j q) ∧ VRel μ ρ (Live μ H) w (xs[j].cells[q]) (f j q) := by
    refine ⟨fun j q => if h : ∃ (hj : j < xs.length), q < xs[j].cells.length then (hE.2 j _ (List.getElem?_eq_getElem h.1) q _ (List.getElem?_eq_getElem h.2)).choose else undef, fun j hj q hq => ?_⟩
    have h : ∃ (hj : j < xs.length), q < xs[j].cells.length := ⟨hj, hq⟩
    simp only [dif_pos h]
    exact (hE.2 j _ (List.getElem?_eq_getElem h.1) q _ (List.getElem?_eq_getElem h.2)).choose_spec
  obtain ⟨f, hf⟩ := hf
  have hz : ∀ j (h : j < xs.length), (xs[j].cells).length = sz := fun j h => hE.1 j _ (List.getElem?_eq_getElem h)
  have hc : ∀ j, j < xs.length → ∀ q, q < sz → w'.cell? ⟨b, 0 + j * sz + q, none⟩ = some (f j q) := fun j hj q hq => by
    have := (hf j hj q (by rw [hz]; exact hq)).1
    simp [World.cell?, hh, this]
  have hr : ∀ j (h : j < xs.length) q (hq : q < (xs[j].cells).length), VRel μ ρ (Live μ H) w' ((xs[j].cells)[q]) (f j q) := fun j hj q hq => ((hf j hj q hq).2).mono hx
  exact ⟨.csl xs b 0 sz f hL hlt hz hc hr, fun cap hcap => .fsl xs b 0 sz cap f hL hlt hcap hz hc hr⟩

/-- A new row that is still written comes under an identity that was free. -/
theorem fresh_row {X : Ctx} {μ : Mu} {ρ : Nat → Value} {w0 w w' : World} {H : AH} (hW : WRel X μ ρ w0 H w) {id : Nat} (hfree : H id = .free) (hb : Below w.heap.size w w') {b : Nat} {C : Array Value} {e : TypeId} {fz : Nat × Nat}
    (hge : w.heap.size ≤ b) (hh : w'.heap[b]? = some (.cells C e fz)) (hfz : FzOK fz C.size) {xs : List AV} {sz : Nat} (hlen : xs.length * sz ≤ C.size) (hE : ERel μ ρ (Live μ H) w sz xs C) :
    ∃ μ', Ext μ (Live μ H) w μ' (Live μ' (H.put id (.row xs sz 0))) w' ∧ WRel X μ' ρ w0 (H.put id (.row xs sz 0)) w' ∧ μ' id 0 = some (b, sz) := by
  let μ' : Mu := fun i v => if i = id ∧ v = 0 then some (b, sz) else μ i v
  have hs := hW.slot id
  rw [hfree] at hs
  have hμ0 : μ' id 0 = some (b, sz) := by simp [μ']
  have hμne : ∀ i, i ≠ id → ∀ v, μ' i v = μ i v := fun i hi v => by simp [μ', hi]
  have hblk : ∀ i, i ≠ id → ∀ s, blk μ' i s = blk μ i s := fun i hi s => by cases s <;> simp [blk, hμne i hi]
  have hx : Ext μ (Live μ H) w μ' (Live μ' (H.put id (.row xs sz 0))) w' := by
    refine ⟨fun i v x h => ?_, hb.size, fun c hc _ => hb.block c hc, fun c hc => by simp only [World.shape?, hb.block c hc], fun c hc => ?_, put_ids (by simp)⟩
    · by_cases hi : i = id
      · subst hi; rw [hs v] at h; cases h
      · rw [hμne i hi]; exact h
    · obtain ⟨i, hi⟩ := hc
      by_cases hid : i = id
      · subst hid
        rw [AH.put_same] at hi
        simp only [blk, hμ0, Option.map_some, Option.some.injEq] at hi
        exact .inr (by omega)
      · rw [AH.put_ne _ _ hid, hblk i hid] at hi
        exact .inl ⟨i, hi⟩
  have hbel : Below w0.heap.size w0 w' := hW.below.trans ⟨hb.os, hb.tape, hb.output, hb.size, fun k hk => hb.block k (Nat.lt_of_lt_of_le hk hW.below.size)⟩
  refine ⟨μ', hx, ?_, hμ0⟩
  refine hW.put id _ hx hbel hμne (fun i hi c hc => hb.block c ((hW.slot i).blk_ge hc).2) ?_ (fun c hc i hi hc' => ?_)
  · refine ⟨fun v hv => by have : v ≠ 0 := by omega
                           simp [μ', this, hs v], .inr ⟨b, C, e, fz, hμ0, Nat.le_trans hW.below.size hge, hh, hfz, hlen, fun j h => hE.1 j _ (List.getElem?_eq_getElem h), fun j h q hq => ?_⟩⟩
    obtain ⟨c, h1, h2⟩ := hE.2 j _ (List.getElem?_eq_getElem h) q _ (List.getElem?_eq_getElem hq)
    exact ⟨c, h1, h2.mono hx⟩
  · simp only [blk, hμ0, Option.map_some, Option.some.injEq] at hc
    have := ((hW.slot i).blk_ge hc').2
    omega

theorem below_alloc (w : World) (o : Obj) : Below w.heap.size w (w.alloc o) := (Below.refl _ _).alloc (Nat.le_refl _) o

section
variable {X : Ctx} {N : Nat} {o : Oper} {r : Regs} {H : AH} {K : Post}

/-! ### One variable: alloc, box -/
theorem erel_one {μ : Mu} {ρ : Nat → Value} {L : LV} {w : World} {x : AV} {c : Value} (h : VRel μ ρ L w x c) (hg : x.good = true) : ERel μ ρ L w x.cells.length [x] c.cells := by
  have hc := h.crel hg
  refine ⟨fun j y hy => ?_, fun j y hy q v hv => ?_⟩
  · have : j = 0 := by have := (List.getElem?_eq_some_iff.1 hy).1; simp at this; omega
    subst this; simp at hy; rw [hy]
  · have : j = 0 := by have := (List.getElem?_eq_some_iff.1 hy).1; simp at this; omega
    subst this
    simp at hy; subst hy
    simpa using hc.2 q v hv

def aAlloc (X : Ctx) (t : TypeId) (H : AH) (K : Post) : Prop :=
  ∃ z, zeOf X.P t = some z ∧ z.good = true ∧ H.get H.nx = .free ∧ K (.ptr H.nx 0 0 0) [H.nx] [(H.nx, .row [z] z.cells.length 0)]
@[simp] theorem upd_nil (H : AH) : H.upd [] = H := rfl
theorem shape_alloc (w : World) (C : Array Value) (e : TypeId) (fz : Nat × Nat) : (w.alloc (.cells C e fz)).shape? w.heap.size = some (e, C.size) := by
  unfold World.shape?; rw [heap_alloc_new]
theorem upd_one (H : AH) (i : Nat) (s : Slot) : H.upd [(i, s)] = H.put i s := rfl
theorem newVar_sound {t : TypeId} {x : AV} (hg : x.good = true) (hnx : H.get H.nx = .free)
    (hrun : ∀ r' H', (∀ z ∈ o.op.operands.toList, r'.ev z = r.ev z) → ∀ μ ρ w0 a w, Rel X N μ ρ w0 r' H' a w → ∃ c, VRel μ ρ (Live μ H') w x c ∧
      (execOp a.eval o).run X.P w = .ok (.value (.pointer (some ⟨w.heap.size, 0, none⟩))) (w.alloc (.cells c.cells t))) :
    Local X N o r H (.ptr H.nx 0 0 0) [H.nx] [(H.nx, .row [x] x.cells.length 0)] := by
  refine ⟨by simp, fun r' H' hr' hH' μ ρ w0 a w hR => ?_⟩
  obtain ⟨c, hv, hrun⟩ := hrun r' H' hr' μ ρ w0 a w hR
  have hE := erel_one hv hg
  obtain ⟨μ', hx, hW', hμ⟩ := fresh_row hR.world (id := H.nx) (by rw [hH' _ (by simp), hnx]) (below_alloc w (.cells c.cells t)) (b := w.heap.size) (C := c.cells) (e := t) (fz := (0, 0)) (Nat.le_refl _)
    (heap_alloc_new w _) (by simp) (by have := (hv.crel hg).1; simp; omega) hE
  refine ⟨_, _, _, μ', hrun, .inl rfl, hx, hW', ?_⟩
  have := VRel.ptr (μ := μ') (ρ := ρ) (L := Live μ' (H'.upd [(H.nx, .row [x] x.cells.length 0)])) (w := w.alloc (.cells c.cells t)) H.nx 0 0 0 _ _ hμ
  simpa using this

theorem aAlloc_sound {t : TypeId} (ho : o.op = .alloc t) (h : aAlloc X t H K) : ∃ v rd wr, K v rd wr ∧ Local X N o r H v rd wr := by
  obtain ⟨z, hz, hg, hnx, hK⟩ := h
  refine ⟨_, _, _, hK, newVar_sound (t := t) hg hnx fun r' H' hr' μ ρ w0 a w hR => ?_⟩
  obtain ⟨c, hrun, rfl, _⟩ := run_zeOf (P := X.P) (w := w) hz
  refine ⟨c, avOf_rel .., ?_⟩
  simp [execOp, ho, Instr.alloc, hrun, newVar, newRow]

def aBox (x : AV) (H : AH) (K : Post) : Prop :=
  x.good = true ∧ H.get H.nx = .free ∧ K (.ptr H.nx 0 0 0) [H.nx] [(H.nx, .row [x] x.cells.length 0)]
theorem aBox_sound {t : TypeId} {x : Operand} (ho : o.op = .box t x) (h : aBox (r.ev x) H K) : ∃ v rd wr, K v rd wr ∧ Local X N o r H v rd wr := by
  obtain ⟨hg, hnx, hK⟩ := h
  refine ⟨_, _, _, hK, newVar_sound (t := t) hg hnx fun r' H' hr' μ ρ w0 a w hR => ?_⟩
  have hv := hR.ev x
  rw [hr' x (by simp [ho, Op.operands])] at hv
  exact ⟨a.eval x, hv, by simp [execOp, ho, Instr.box, newVar, newRow]⟩

/-! ### A literal slice -/
theorem fill_row (n : Nat) : ∀ (vs : List Value) (i : Nat) (C : Array Value), (∀ v ∈ vs, v.cells.size = n) → (i + vs.length) * n ≤ C.size →
    ∃ D, Instr.fill (fun i => some (i * n, n)) C ((vs.zipIdx i).map fun x => (x.2, x.1)) = some D ∧ D.size = C.size ∧ (∀ k, k < i * n → D[k]? = C[k]?) ∧
      ∀ (j : Nat) (v : Value), vs[j]? = some v → ∀ q, q < n → D[(i + j) * n + q]? = v.cells[q]?
  | [], i, C, _, _ => ⟨C, rfl, rfl, fun _ _ => rfl, by simp⟩
  | v :: vs, i, C, hn, hC => by
    have hv : v.cells.size = n := hn v (by simp)
    have hC1 : (i + 1) * n ≤ C.size := Nat.le_trans (Nat.mul_le_mul_right _ (by simp)) hC
    have hC2 : i * n + n ≤ C.size := by rw [Nat.add_mul] at hC1; omega
    obtain ⟨f1, f2⟩ := foldl_set (i * n) v.cells.toList 0 C
    obtain ⟨D, hD, hs, hlo, hhi⟩ := fill_row n vs (i + 1) ((v.cells.toList.zipIdx 0).foldl (fun cs (x : Value × Nat) => cs.setIfInBounds (i * n + x.2) x.1) C) (fun u hu => hn u (by simp [hu]))
      (by rw [f1]; simpa [Nat.add_assoc, Nat.add_comm 1] using hC)
    have hzip : (v.cells.zipIdx.foldl (fun cs x => cs.setIfInBounds (i * n + x.2) x.1) C) = (v.cells.toList.zipIdx 0).foldl (fun cs (x : Value × Nat) => cs.setIfInBounds (i * n + x.2) x.1) C := by
      rw [← Array.foldl_toList]; simp
    have e1 : (i + 1) * n = i * n + n := by rw [Nat.add_mul, Nat.one_mul]
    refine ⟨D, ?_, by rw [hs, f1], fun k hk => ?_, fun j u hu q hq => ?_⟩
    · simp only [List.zipIdx_cons, List.map_cons, Instr.fill]
      rw [if_neg (by rw [hv]; simp; omega), hzip]
      exact hD
    · rw [hlo k (by omega), f2 k, if_neg (by omega)]
    · cases j with
      | zero =>
        simp only [List.getElem?_cons_zero, Option.some.injEq] at hu
        subst hu
        rw [Nat.add_zero, hlo _ (by omega), f2, if_pos ⟨by omega, by simp [hv]; omega, by omega⟩]
        simp only [Nat.add_zero, Nat.add_sub_cancel_left, Array.getElem?_toList]
      | succ j =>
        have := hhi j u (by simpa using hu) q hq
        rw [show i + (j + 1) = i + 1 + j by omega]
        exact this

def aBuildSlice (X : Ctx) (lv : Bool) (t : TypeId) (len : Nat) (parts : List (Nat × AV)) (H : AH) (K : Post) : Prop :=
  ∃ e n by_, slOf X.P t = some (e, n, by_) ∧ (zeOf X.P e).isSome = true ∧ len * n ≤ 16777216 ∧ parts.map (·.1) = List.range len ∧ (∀ p ∈ parts, p.2.good = true ∧ p.2.cells.length = n) ∧
    (if lv = true then H.get H.nx = .free ∧ K (.sl H.nx 0 0 len) [H.nx] [(H.nx, .row (parts.map (·.2)) n 0)] else K (.csl (parts.map (·.2))) [] [])

theorem aBuildSlice_sound {lv : Bool} {t : TypeId} {len : Nat} {parts : Array (Nat × Operand)} (ho : o.op = .buildSlice t len parts)
    (h : aBuildSlice X lv t len (parts.toList.map fun p => (p.1, r.ev p.2)) H K) : ∃ v rd wr, K v rd wr ∧ Local X N o r H v rd wr := by
  obtain ⟨e, n, by_, hs, hze, h24, hidx, hgood, hK⟩ := h
  obtain ⟨hu, inf, hinf, hn, _⟩ := slOf_spec hs
  subst hn
  have hlenp : parts.size = len := by
    have := congrArg List.length hidx
    simpa using this
  have hrun : ∀ r' H', (∀ z ∈ o.op.operands.toList, r'.ev z = r.ev z) → ∀ μ ρ w0 a w, Rel X N μ ρ w0 r' H' a w →
      ∃ D, (execOp a.eval o).run X.P w = .ok (.value (.slice (some ⟨w.heap.size, 0, none⟩) len len)) (w.alloc (.cells D e)) ∧ D.size = len * inf.size ∧
        ERel μ ρ (Live μ H') w inf.size ((parts.toList.map fun p => (p.1, r.ev p.2)).map (·.2)) D := by
    intro r' H' hr' μ ρ w0 a w hR
    have hev : ∀ p ∈ parts.toList, VRel μ ρ (Live μ H') w (r.ev p.2) (a.eval p.2) := fun p hp => by
      rw [← hr' p.2 (by simp only [ho, Op.operands]; exact List.mem_map.2 ⟨p, hp, rfl⟩)]
      exact hR.ev _
    have hcells : ∀ p ∈ parts.toList, (a.eval p.2).cells.size = inf.size := fun p hp => by
      have hg := hgood (p.1, r.ev p.2) (List.mem_map.2 ⟨p, hp, rfl⟩)
      rw [((hev p hp).crel hg.1).1]; exact hg.2
    obtain ⟨z0, hz0⟩ := Option.isSome_iff_exists.1 hze
    obtain ⟨zc, hzr, _, _⟩ := run_zeOf (P := X.P) (w := w) hz0
    have hzz : ∃ zz, (if len * inf.size = 0 then (pure #[] : Sem (Array Value)) else do pure (← zeroValue e).cells).run X.P w = .ok zz w := by
      split
      · exact ⟨#[], rfl⟩
      · exact ⟨zc.cells, by simp [hzr]⟩
    obtain ⟨zz, hzz⟩ := hzz
    obtain ⟨D, hD, hDs, _, hDv⟩ := fill_row inf.size (parts.toList.map fun p => a.eval p.2) 0 ((Array.range (len * inf.size)).map (zz[· % zz.size]!))
      (fun v hv => by obtain ⟨p, hp, rfl⟩ := List.mem_map.1 hv; exact hcells p hp) (by simp [hlenp])
    have hparts : (parts.map fun (i, x) => (i, a.eval x)).toList = ((parts.toList.map fun p => a.eval p.2).zipIdx 0).map fun x => (x.2, x.1) := by
      apply List.ext_getElem?
      intro j
      simp only [Array.toList_map, List.getElem?_map, List.getElem?_zipIdx]
      cases hj : parts.toList[j]? with
      | none => simp
      | some p =>
        have : ((parts.toList.map fun p => (p.1, r.ev p.2)).map (·.1))[j]? = some p.1 := by simp [hj]
        rw [hidx] at this
        have hjl := (List.getElem?_eq_some_iff.1 this)
        obtain ⟨hj1, hj2⟩ := hjl
        simp at hj2
        simp [← hj2]
    refine ⟨D, ?_, by rw [hDs]; simp, fun j x hx => ?_, fun j x hx q v hv => ?_⟩
    · have he : execOp a.eval o = (do pure (Next.value (← Instr.buildSlice t len (parts.map fun (i, x) => (i, a.eval x))))) := by unfold execOp; rw [ho]
      rw [he]
      have h24' : ¬ (len * inf.size > 2 ^ 24) := by omega
      have hso : (sizeOf e).run X.P w = .ok inf.size w := by simp [sizeOf, typeInfo, hinf]
      by_cases h0 : len * inf.size = 0
      · rw [if_pos h0] at hzz
        obtain rfl : #[] = zz := by have := hzz; simp only [Sem.run_pure, Result.ok.injEq] at this; exact this.1
        simp only [Instr.buildSlice, Sem.run_bind, run_underlying hu, Result.andThen_ok, hso, if_neg h24', if_pos h0, Sem.run_pure, hparts, hD]
        simp [newRow]
      · rw [if_neg h0] at hzz
        obtain rfl : zc.cells = zz := by have := hzz; simp only [Sem.run_bind, hzr, Result.andThen_ok, Sem.run_pure, Result.ok.injEq] at this; exact this.1
        simp only [Instr.buildSlice, Sem.run_bind, run_underlying hu, Result.andThen_ok, hso, if_neg h24', if_neg h0, hzr, Sem.run_pure, hparts, hD]
        simp [newRow]
    · simp only [List.getElem?_map, Option.map_eq_some_iff] at hx
      obtain ⟨p', ⟨p, hp, rfl⟩, rfl⟩ := hx
      exact (hgood _ (List.mem_map.2 ⟨p, List.mem_of_getElem? hp, rfl⟩)).2
    · simp only [List.getElem?_map, Option.map_eq_some_iff] at hx
      obtain ⟨p', ⟨p, hp, rfl⟩, rfl⟩ := hx
      have hm := List.mem_of_getElem? hp
      have hg := hgood _ (List.mem_map.2 ⟨p, hm, rfl⟩)
      obtain ⟨c, hc, hr⟩ := ((hev p hm).crel hg.1).2 q v hv
      have hq : q < inf.size := by
        have := (List.getElem?_eq_some_iff.1 hv).1
        have h2 := hg.2
        simp only at h2 this
        omega
      have := hDv j (a.eval p.2) (by simp [hp]) q hq
      rw [Nat.zero_add] at this
      exact ⟨c, by rw [this]; exact hc, hr⟩
  by_cases hl : lv = true
  · rw [if_pos hl] at hK
    refine ⟨_, _, _, hK.2, by simp, fun r' H' hr' hH' μ ρ w0 a w hR => ?_⟩
    obtain ⟨D, hex, hDs, hE⟩ := hrun r' H' hr' μ ρ w0 a w hR
    obtain ⟨μ', hx, hW', hμ⟩ := fresh_row hR.world (id := H.nx) (by rw [hH' _ (by simp), hK.1]) (below_alloc w (.cells D e)) (b := w.heap.size) (C := D) (e := e) (fz := (0, 0)) (Nat.le_refl _)
      (heap_alloc_new w _) (by simp) (by simp [hDs, hlenp]) hE
    refine ⟨_, _, _, μ', hex, .inl rfl, hx, hW', ?_⟩
    have := VRel.sl (μ := μ') (ρ := ρ) (L := Live μ' (H'.upd [(H.nx, .row ((parts.toList.map fun p => (p.1, r.ev p.2)).map (·.2)) inf.size 0)])) (w := w.alloc (.cells D e)) H.nx 0 0 len w.heap.size inf.size len e D.size hμ (Nat.le_refl _)
      (shape_alloc w D e (0, 0)) (by simp [hDs])
    simpa using this
  · rw [if_neg hl] at hK
    refine ⟨_, _, _, hK, by simp, fun r' H' hr' hH' μ ρ w0 a w hR => ?_⟩
    obtain ⟨D, hex, hDs, hE⟩ := hrun r' H' hr' μ ρ w0 a w hR
    have hbw := below_alloc w (.cells D e)
    obtain ⟨hx, hW'⟩ := hR.world.grow hbw
    refine ⟨_, _, _, μ, hex, .inl rfl, hx, hW', ?_⟩
    have := (vrel_fresh hR.world hbw (o := 0) (Nat.le_refl _) (heap_alloc_new w _) hE).1
    simpa [hlenp, upd_nil] using this
end
end Go.Proofs.YtndoembhbfiokaaGreatDoor.Am
