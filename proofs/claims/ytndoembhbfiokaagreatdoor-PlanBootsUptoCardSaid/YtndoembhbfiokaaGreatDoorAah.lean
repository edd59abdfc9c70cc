/- The logic and the contracts that the laws stand on, part 8. -/
import Derived.Test.YtndoembhbfiokaaGreatDoorAag
import Derived.MapKept
/- Maps of the call's own, with numbers for keys. -/
set_option linter.unusedVariables false
set_option linter.unusedSimpArgs false
namespace Go.Proofs.YtndoembhbfiokaaGreatDoor.Am
open Go.RowKit

def encM (k : IntKind) (ms : List (Int × AV)) : List (AV × AV) := ms.map fun p => (.int k p.1, p.2)
def putM : List (Int × AV) → Int → AV → List (Int × AV)
  | [], n, v => [(n, v)]
  | (m, u) :: r, n, v => if n = m then (m, v) :: r else (m, u) :: putM r n v
def getM : List (Int × AV) → Int → Option AV
  | [], _ => none
  | (m, u) :: r, n => if n = m then some u else getM r n
theorem getM_putM (m : Int) : ∀ (ms : List (Int × AV)) (n : Int) (v : AV), getM (putM ms n v) m = if m = n then some v else getM ms m
  | [], n, v => by simp [putM, getM]
  | (k, u) :: r, n, v => by
    simp only [putM]
    split
    · rename_i h
      subst h
      simp only [getM]
      split <;> rfl
    · rename_i h
      simp only [getM, getM_putM m r n v]
      by_cases h1 : m = k
      · subst h1
        have : ¬ m = n := fun e => h e.symm
        simp [this]
      · simp [h1]

/-- A new, empty map. -/
theorem fresh_map {X : Ctx} {μ : Mu} {ρ : Nat → Value} {w0 w : World} {H : AH} (hW : WRel X μ ρ w0 H w) {id : Nat} (hfree : H.get id = .free) :
    ∃ μ', Ext μ (Live μ H) w μ' (Live μ' (H.put id (.mapo []))) (w.alloc (.map #[] 0)) ∧ WRel X μ' ρ w0 (H.put id (.mapo [])) (w.alloc (.map #[] 0)) ∧ μ' id 0 = some (w.heap.size, 0) := by
  let μ' : Mu := fun i v => if i = id ∧ v = 0 then some (w.heap.size, 0) else μ i v
  have hb := below_alloc w (.map #[] 0)
  have hs := hW.slot id
  rw [hfree] at hs
  have hμ0 : μ' id 0 = some (w.heap.size, 0) := by simp [μ']
  have hμne : ∀ i, i ≠ id → ∀ v, μ' i v = μ i v := fun i hi v => by simp [μ', hi]
  have hblk : ∀ i, i ≠ id → ∀ s, blk μ' i s = blk μ i s := fun i hi s => by cases s <;> simp [blk, hμne i hi]
  have hh : (w.alloc (.map #[] 0)).heap[w.heap.size]? = some (.map #[] 0) := by
    show (w.heap.push _)[w.heap.size]? = _
    simp
  have hx : Ext μ (Live μ H) w μ' (Live μ' (H.put id (.mapo []))) (w.alloc (.map #[] 0)) := by
    refine ⟨fun i v x h => ?_, hb.size, fun c hc _ => hb.block c hc, fun c hc => by simp only [World.shape?, hb.block c hc], fun c hc => ?_, put_ids (by simp)⟩
    · by_cases hi : i = id
      · subst hi; rw [hs v] at h; cases h
      · rw [hμne i hi]; exact h
    · obtain ⟨i, hi⟩ := hc
      by_cases hid : i = id
      · subst hid
        rw [AH.put_same] at hi
        simp only [blk, hμ0, Option.map_some, Option.some.injEq] at hi
        exact .inr (by omega)
      · rw [AH.put_ne _ _ hid, hblk i hid] at hi
        exact .inl ⟨i, hi⟩
  have hbel : Below w0.heap.size w0 (w.alloc (.map #[] 0)) := hW.below.trans ⟨hb.os, hb.tape, hb.output, hb.size, fun k hk => hb.block k (Nat.lt_of_lt_of_le hk hW.below.size)⟩
  refine ⟨μ', hx, ?_, hμ0⟩
  refine hW.put id _ hx hbel hμne (fun i hi c hc => hb.block c ((hW.slot i).blk_ge hc).2) ?_ (fun c hc i hi hc' => ?_)
  · exact ⟨w.heap.size, 0, #[], 0, hμ0, hW.below.size, hh, rfl, fun j h => by simp at h⟩
  · simp only [blk, hμ0, Option.map_some, Option.some.injEq] at hc
    have := ((hW.slot i).blk_ge hc').2
    omega

/-- A map is written. -/
theorem setMap {X : Ctx} {μ : Mu} {ρ : Nat → Value} {w0 w w' : World} {H : AH} (hW : WRel X μ ρ w0 H w) {id b sz : Nat} {es fs : List (AV × AV)} (hH : H.get id = .mapo es) (hμ : μ id 0 = some (b, sz))
    (hrest : w'.os = w.os ∧ w'.tape = w.tape ∧ w'.output = w.output ∧ w'.heap.size = w.heap.size) (hother : ∀ k, k ≠ b → w'.heap[k]? = w.heap[k]?) {E F : Array MapEntry} {cl cl' : Nat}
    (hE : w.heap[b]? = some (.map E cl)) (hF : w'.heap[b]? = some (.map F cl')) (hs : F.size = fs.length)
    (hr : ∀ j (h : j < fs.length) (h' : j < F.size), VRel μ ρ (Live μ H) w (fs[j].1) (F[j].key) ∧ VRel μ ρ (Live μ H) w (fs[j].2) (F[j].val)) :
    Ext μ (Live μ H) w μ (Live μ (H.put id (.mapo fs))) w' ∧ WRel X μ ρ w0 (H.put id (.mapo fs)) w' := by
  have hbid : blk μ id (H.get id) = some b := by simp [hH, blk, hμ]
  have hlive : Live μ H b := ⟨id, hbid⟩
  have hge := hW.live_ge hlive
  have hblk : ∀ i, blk μ i ((H.put id (.mapo fs)).get i) = blk μ i (H.get i) := fun i => by
    by_cases hi : i = id
    · subst hi; rw [AH.put_same, hbid]; simp [blk, hμ]
    · rw [AH.put_ne _ _ hi]
  have hx : Ext μ (Live μ H) w μ (Live μ (H.put id (.mapo fs))) w' := by
    refine ⟨fun _ _ _ h => h, by omega, fun c hc hn => hother c (fun h => hn (h ▸ hlive)), fun c hc => ?_, fun c hc => ?_, put_ids (by simp)⟩
    · by_cases hcb : c = b
      · subst hcb; simp only [World.shape?, hE, hF]
      · simp only [World.shape?, hother c hcb]
    · obtain ⟨i, hi⟩ := hc
      rw [hblk] at hi
      exact .inl ⟨i, hi⟩
  have hbel : Below w0.heap.size w0 w' := hW.below.trans ⟨hrest.1, hrest.2.1, hrest.2.2.1, by omega, fun k hk => hother k (by have := hge.1; omega)⟩
  refine ⟨hx, hW.put id _ hx hbel (fun _ _ _ => rfl) (fun i hi c hc => hother c (fun h => ?_)) ?_ (fun c hc i hi hc' => ?_)⟩
  · subst h; exact hi (hW.inj i id c hc hbid)
  · exact ⟨b, sz, F, cl', hμ, hge.1, hF, hs, fun j h h' => ⟨(hr j h h').1.mono hx, (hr j h h').2.mono hx⟩⟩
  · have e1 : c = b := by simp [blk, hμ] at hc; exact hc.symm
    subst e1
    exact hi (hW.inj i id c hc' hbid)

section
variable {X : Ctx} {N : Nat} {o : Oper} {r : Regs} {H : AH} {K : Post}

theorem WRel.map_at {μ : Mu} {ρ : Nat → Value} {w0 w : World} {H : AH} (h : WRel X μ ρ w0 H w) {id b sz : Nat} {es : List (AV × AV)} (hH : H.get id = .mapo es) (hμ : μ id 0 = some (b, sz)) :
    ∃ E cl, w.heap[b]? = some (.map E cl) ∧ E.size = es.length ∧ ∀ j (h : j < es.length) (h' : j < E.size), VRel μ ρ (Live μ H) w (es[j].1) (E[j].key) ∧ VRel μ ρ (Live μ H) w (es[j].2) (E[j].val) := by
  have hs := h.slot id
  rw [hH] at hs
  obtain ⟨b', sz', E, cl, h1, h2, h3, h4, h5⟩ := hs
  rw [hμ] at h1
  simp only [Option.some.injEq, Prod.mk.injEq] at h1
  obtain ⟨rfl, rfl⟩ := h1
  exact ⟨E, cl, h3, h4, h5⟩

/-- What is found by a number. -/
theorem findNow_run {μ : Mu} {ρ : Nat → Value} {L : LV} {w : World} {k kk : IntKind} {n : Int} : ∀ (ms : List (Int × AV)) (E : List MapEntry) (i : Nat), E.length = ms.length →
    (∀ j (h : j < ms.length) (h' : j < E.length), VRel μ ρ L w (.int k ms[j].1) (E[j].key) ∧ VRel μ ρ L w (ms[j].2) (E[j].val)) →
    (getM ms n = none ∧ Instr.findNow (.int kk) (.int k n) E i = some none) ∨
    ∃ j v, ∃ (h : j < ms.length) (h' : j < E.length), getM ms n = some ms[j].2 ∧ E[j].key = .int k n ∧ E[j].val = v ∧ VRel μ ρ L w ms[j].2 v ∧ Instr.findNow (.int kk) (.int k n) E i = some (some (i + j, v)) ∧
      ∀ u, putM ms n u = ms.set j (ms[j].1, u)
  | [], [], i, _, _ => .inl ⟨rfl, rfl⟩
  | (m, u) :: ms, e :: E, i, hl, h => by
    obtain ⟨hk, hv⟩ := h 0 (by simp) (by simp)
    simp only [List.getElem_cons_zero] at hk hv
    have hke : e.key = .int k m := by
      generalize e.key = c at hk
      cases hk; rfl
    by_cases hnm : n = m
    · subst hnm
      exact .inr ⟨0, e.val, by simp, by simp, by simp [getM], hke, rfl, hv, by simp [Instr.findNow, hke, Instr.sameNow], fun u => by simp [putM]⟩
    · have hf : Instr.findNow (.int kk) (.int k n) (e :: E) i = Instr.findNow (.int kk) (.int k n) E (i + 1) := by
        have hb : (n == m) = false := by simpa using hnm
        simp [Instr.findNow, hke, Instr.sameNow, hb]
      rcases findNow_run (kk := kk) (n := n) ms E (i + 1) (by simpa using hl) (fun j h1 h2 => by have := h (j + 1) (by simpa using h1) (by simpa using h2); simpa using this) with ⟨h1, h2⟩ | ⟨j, v, h1, h2, h3, h4, h5, h6, h7, h8⟩
      · exact .inl ⟨by simp [getM, hnm, h1], by rw [hf, h2]⟩
      · exact .inr ⟨j + 1, v, by simpa using h1, by simpa using h2, by simp [getM, hnm, h3], by simpa using h4, by simpa using h5, by simpa using h6, by rw [hf, h7]; congr 3; omega, fun u => by simp [putM, hnm, h8]⟩
  | [], _ :: _, _, hl, _ => by simp at hl
  | _ :: _, [], _, hl, _ => by simp at hl

def aMakeMap (H : AH) (K : Post) : Prop := K (.map H.nx) [H.nx] [(H.nx, .mapo [])]
theorem aMakeMap_sound {t : TypeId} (ho : o.op = .makeMap t none) (h : aMakeMap H K) : ∃ v rd wr, K v rd wr ∧ Local X N o r H v rd wr := by
  refine ⟨_, _, _, h, by simp, fun r' H' hr' hH' μ ρ w0 a w hR => ?_⟩
  obtain ⟨μ', hx, hW', hμ⟩ := fresh_map hR.world (id := H.nx) (by rw [hH' _ (by simp)]; exact AH.fresh H)
  refine ⟨_, .map (some w.heap.size), _, μ', ?_, .inl rfl, hx, hW', .map _ _ _ hμ⟩
  have : (Instr.makeMap t none).run X.P w = .ok (.map (some w.heap.size)) (w.alloc (.map #[] 0)) := rfl
  simp [execOp, ho, this]

def mapOf (P : Program) (t : TypeId) : Option (IntKind × AV) :=
  match P.underlying t with
  | some (.map k e) => match P.underlying k with
    | some (.int q) => (zeOf P e).map fun z => (q, z)
    | _ => none
  | _ => none
theorem mapOf_spec {P : Program} {t : TypeId} {q : IntKind} {z : AV} (h : mapOf P t = some (q, z)) : ∃ k e, P.underlying t = some (.map k e) ∧ P.underlying k = some (.int q) ∧ zeOf P e = some z := by
  unfold mapOf at h
  split at h
  · split at h
    · simp only [Option.map_eq_some_iff, Prod.mk.injEq] at h
      obtain ⟨z', h1, rfl, rfl⟩ := h
      exact ⟨_, _, by assumption, by assumption, h1⟩
    · cases h
  · cases h

def aLookup (X : Ctx) (t : TypeId) (x i : AV) (H : AH) (K : Post) : Prop :=
  match x, i with
  | .map id, .int k n => ∃ z ms, mapOf X.P t = some (k, z) ∧ H.get id = .mapo (encM k ms) ∧ K ((getM ms n).getD z) [id] []
  | _, _ => False
theorem aLookup_sound {t : TypeId} {x i : Operand} (ho : o.op = .lookup t x i false) (h : aLookup X t (r.ev x) (r.ev i) H K) : ∃ v rd wr, K v rd wr ∧ Local X N o r H v rd wr := by
  unfold aLookup at h
  split at h
  · rename_i id k n hx hi
    obtain ⟨z, ms, hm, hH, hK⟩ := h
    obtain ⟨kt, et, hu, hk, hz⟩ := mapOf_spec hm
    refine ⟨_, _, _, hK, by simp, fun r' H' hr' hH' => SemOp.same fun μ ρ w0 a w hR => ?_⟩
    have h1 := hR.ev x
    have h2 := hR.ev i
    rw [hr' x (by simp [ho, Op.operands]), hx] at h1
    rw [hr' i (by simp [ho, Op.operands]), hi] at h2
    have hHid : H'.get id = .mapo (encM k ms) := by rw [hH' id (by simp), hH]
    generalize hcx : a.eval x = cx at h1
    generalize hci : a.eval i = ci at h2
    cases h2
    cases h1 with
    | map _ b sz hμ =>
      obtain ⟨E, cl, hE, hs, hr⟩ := hR.world.map_at hHid hμ
      have hl : E.toList.length = ms.length := by simp [hs, encM]
      have hrr : ∀ j (h : j < ms.length) (h' : j < E.toList.length), VRel μ ρ (Live μ H') w (.int k ms[j].1) (E.toList[j].key) ∧ VRel μ ρ (Live μ H') w (ms[j].2) (E.toList[j].val) := fun j h h' => by
        have := hr j (by simpa [encM] using h) (by simpa using h')
        simpa [encM] using this
      obtain ⟨zc, hzr, hzv, _⟩ := run_zeOf (P := X.P) (w := w) hz
      have hck : (Instr.checkKey E.isEmpty 10000 kt (.int k n)).run X.P w = .ok () w := MapKept.run_checkKey hk (show MapKept.IsKey (.int k) (.int k n) from rfl) _ 9999
      rcases findNow_run (kk := k) (n := n) ms E.toList 0 hl hrr with ⟨g1, g2⟩ | ⟨j, v, j1, j2, g1, g2, g3, g4, g5, _⟩
      · refine ⟨zc, ?_, by rw [g1, hzv]; exact avOf_rel ..⟩
        have hf : (Instr.findKey kt (.int k n) E.toList).run X.P w = .ok none w := by simp [Instr.findKey, run_underlying hk, g2]
        simp [execOp, ho, Instr.lookup, hcx, hci, run_underlying hu, MapKept.run_getObj_map hE, hck, hf, hzr]
      · refine ⟨v, ?_, by rw [g1]; exact g4⟩
        have hf : (Instr.findKey kt (.int k n) E.toList).run X.P w = .ok (some (0 + j, v)) w := by simp [Instr.findKey, run_underlying hk, g5]
        simp [execOp, ho, Instr.lookup, hcx, hci, run_underlying hu, MapKept.run_getObj_map hE, hck, hf]
  · exact h.elim

def aMapUpdate (X : Ctx) (t : TypeId) (x i v : AV) (H : AH) (K : Post) : Prop :=
  match x, i with
  | .map id, .int k n => ∃ z ms, mapOf X.P t = some (k, z) ∧ H.get id = .mapo (encM k ms) ∧ K .any [id] [(id, .mapo (encM k (putM ms n v)))]
  | _, _ => False
theorem putM_new {v : AV} : ∀ (ms : List (Int × AV)) (n : Int), getM ms n = none → putM ms n v = ms ++ [(n, v)]
  | [], n, _ => rfl
  | (m, u) :: r, n, h => by
    simp only [getM] at h
    split at h
    · cases h
    · rename_i hne
      simp [putM, hne, putM_new r n h]
theorem aMapUpdate_sound {t : TypeId} {x i v : Operand} (ho : o.op = .mapUpdate t x i v) (h : aMapUpdate X t (r.ev x) (r.ev i) (r.ev v) H K) : ∃ u rd wr, K u rd wr ∧ Local X N o r H u rd wr := by
  unfold aMapUpdate at h
  split at h
  · rename_i id k n hx hi
    obtain ⟨z, ms, hm, hH, hK⟩ := h
    obtain ⟨kt, et, hu, hk, hz⟩ := mapOf_spec hm
    refine ⟨_, _, _, hK, by simp, fun r' H' hr' hH' μ ρ w0 a w hR => ?_⟩
    have h1 := hR.ev x
    have h2 := hR.ev i
    have h3 := hR.ev v
    rw [hr' x (by simp [ho, Op.operands]), hx] at h1
    rw [hr' i (by simp [ho, Op.operands]), hi] at h2
    rw [hr' v (by simp [ho, Op.operands])] at h3
    have hHid : H'.get id = .mapo (encM k ms) := by rw [hH' id (by simp), hH]
    generalize hcx : a.eval x = cx at h1
    generalize hci : a.eval i = ci at h2
    generalize hcv : a.eval v = cv at h3
    cases h2
    cases h1 with
    | map _ b sz hμ =>
      obtain ⟨E, cl, hE, hs, hr⟩ := hR.world.map_at hHid hμ
      have hl : E.toList.length = ms.length := by simp [hs, encM]
      have hEs : E.size = ms.length := by simpa using hl
      have hrr : ∀ j (h : j < ms.length) (h' : j < E.toList.length), VRel μ ρ (Live μ H') w (.int k ms[j].1) (E.toList[j].key) ∧ VRel μ ρ (Live μ H') w (ms[j].2) (E.toList[j].val) := fun j h h' => by
        have := hr j (by simpa [encM] using h) (by simpa using h')
        simpa [encM] using this
      have hck : (Instr.checkKey false 10000 kt (.int k n)).run X.P w = .ok () w := MapKept.run_checkKey hk (show MapKept.IsKey (.int k) (.int k n) from rfl) _ 9999
      have hbs : b < w.heap.size := (Array.getElem?_eq_some_iff.1 hE).1
      have hset : ∀ (F : Array MapEntry) (cl' : Nat), let w' : World := { w with heap := w.heap.setIfInBounds b (.map F cl') }
          (w'.os = w.os ∧ w'.tape = w.tape ∧ w'.output = w.output ∧ w'.heap.size = w.heap.size) ∧ (∀ k, k ≠ b → w'.heap[k]? = w.heap[k]?) ∧ w'.heap[b]? = some (.map F cl') := fun F cl' =>
        ⟨⟨rfl, rfl, rfl, by simp⟩, fun k hk => by simp [Array.getElem?_setIfInBounds, Ne.symm hk], by simp [Array.getElem?_setIfInBounds, hbs]⟩
      rcases findNow_run (kk := k) (n := n) ms E.toList 0 hl hrr with ⟨g1, g2⟩ | ⟨j, u, j1, j2, g1, g2, g3, g4, g5, g6⟩
      · have hf : (Instr.findKey kt (.int k n) E.toList).run X.P w = .ok none w := by simp [Instr.findKey, run_underlying hk, g2]
        obtain ⟨q1, q2, q3⟩ := hset (E.push { key := .int k n, val := cv, born := cl }) (cl + 1)
        obtain ⟨hx, hW'⟩ := setMap hR.world (fs := encM k (putM ms n (r.ev v))) hHid hμ q1 q2 hE q3 (by simp [encM, putM_new _ _ g1, hEs]) (fun jj hj hj' => by
          simp only [encM, putM_new _ _ g1, List.getElem_map] at hj ⊢
          simp only [List.length_map, List.length_append, List.length_singleton] at hj
          by_cases hjj : jj < ms.length
          · have := hrr jj hjj (by omega)
            simp only [List.getElem_append_left hjj, Array.getElem_push_lt (show jj < E.size by omega)]
            simpa using this
          · obtain rfl : jj = ms.length := by omega
            have e1 : (E.push { key := .int k n, val := cv, born := cl })[ms.length]'(by simp [hEs]) = { key := .int k n, val := cv, born := cl } := by
              simp only [← hEs, Array.getElem_push_eq]
            simp only [List.getElem_append_right (Nat.le_refl _), Nat.sub_self, List.getElem_cons_zero]
            rw [e1]
            exact ⟨.int _ _, h3⟩)
        refine ⟨.skip, undef, _, μ, ?_, .inr ⟨rfl, rfl⟩, hx, hW', .any _⟩
        simp [execOp, ho, Instr.mapUpdate, hcx, hci, hcv, run_underlying hu, MapKept.run_getObj_map hE, hck, hf, MapKept.run_setObj_map _ hE]
      · have hf : (Instr.findKey kt (.int k n) E.toList).run X.P w = .ok (some (0 + j, u)) w := by simp [Instr.findKey, run_underlying hk, g5]
        have j2' : j < E.size := by simpa using j2
        have hkey : E[j].key = .int k n := by simpa using g2
        have hkt : (Instr.keyThatStays (((E[j]?).map (·.key)).getD (.int k n)) (.int k n)).run X.P w = .ok (.int k n) w := by
          simp [Array.getElem?_eq_getElem j2', hkey, Instr.keyThatStays, Instr.sameBits]
        obtain ⟨q1, q2, q3⟩ := hset (E.modify j fun e => { e with key := .int k n, val := cv }) cl
        obtain ⟨hx, hW'⟩ := setMap hR.world (fs := encM k (putM ms n (r.ev v))) hHid hμ q1 q2 hE q3 (by simp [encM, g6, hEs]) (fun jj hj hj' => by
          simp only [encM, g6, List.getElem_map, List.getElem_set, Array.getElem_modify]
          have hjj : jj < ms.length := by simpa [encM, g6] using hj
          have := hrr jj hjj (by omega)
          by_cases he : j = jj
          · subst he
            simp only [if_true]
            refine ⟨?_, h3⟩
            have h5 := this.1
            simp only [Array.getElem_toList] at h5
            rw [hkey] at h5
            exact h5
          · simp only [he, if_false]
            simpa using this)
        refine ⟨.skip, undef, _, μ, ?_, .inr ⟨rfl, rfl⟩, hx, hW', .any _⟩
        simp [execOp, ho, Instr.mapUpdate, hcx, hci, hcv, run_underlying hu, MapKept.run_getObj_map hE, hck, hf, hkt, MapKept.run_setObj_map _ hE]
  · exact h.elim
end
end Go.Proofs.YtndoembhbfiokaaGreatDoor.Am
/- Operations of every kind, and calls. -/
set_option linter.unusedVariables false
set_option linter.unusedSimpArgs false
namespace Go.Proofs.YtndoembhbfiokaaGreatDoor.Am
open Go.RowKit

def callable (P : Program) (f : FuncId) : Bool :=
  match P.funcs[f]? with
  | some fn => fn.name != "runtime.NumGoroutine" && fn.body.isSome
  | none => false

theorem run_callFunc_ok {P : Program} {f : FuncId} (h : callable P f = true) (args : Array Value) (w : World) : (callFunc f args).run P w = .ok (.enter f args) w := by
  unfold callable at h
  split at h
  · rename_i fn hf
    simp only [Bool.and_eq_true, bne_iff_ne, ne_eq] at h
    obtain ⟨h1, h2⟩ := h
    have h3 : fn.body.isNone = false := by cases hb : fn.body <;> simp_all
    have h4 : (fn.name == "runtime.NumGoroutine") = false := by simpa using h1
    have h5 : fn.body ≠ none := by cases hb : fn.body <;> simp_all
    simp [callFunc, go_sem, hf, h1, h5]
  · cases h

/-- What a call does, in whatever state of the model stands behind the abstract one. -/
def ACalls (X : Ctx) (f : FuncId) (args : List AV) (H : AH) (Q : AV → AH → Prop) : Prop :=
  callable X.P f = true ∧ ∀ μ ρ w0 w A, WRel X μ ρ w0 H w → CRel μ ρ (Live μ H) w args A →
    Calls X.P f A w fun e w' => ∃ c v H' μ', e = .returned c ∧ Q v H' ∧ Ext μ (Live μ H) w μ' (Live μ' H') w' ∧ WRel X μ' ρ w0 H' w' ∧ VRel μ' ρ (Live μ' H') w' v c

theorem ACalls.mono {X : Ctx} {f : FuncId} {args : List AV} {H : AH} {Q Q' : AV → AH → Prop} (h : ACalls X f args H Q) (hq : ∀ v H', Q v H' → Q' v H') : ACalls X f args H Q' :=
  ⟨h.1, fun μ ρ w0 w A hW hA => Calls.mono (h.2 μ ρ w0 w A hW hA) fun e w' ⟨c, v, H', μ', h1, h2, h3⟩ => ⟨c, v, H', μ', h1, hq _ _ h2, h3⟩⟩

/-- A call's answer, which identities it looks at, what it writes. -/
def CLoc (X : Ctx) (f : FuncId) (args : List AV) (H : AH) (v : AV) (rd : List Nat) (wr : List (Nat × Slot)) : Prop :=
  (∀ i s, (i, s) ∈ wr → i ∈ rd) ∧ ∀ H' : AH, (∀ i ∈ rd, H'.get i = H.get i) → ACalls X f args H' fun v' H'' => v' = v ∧ H'' = H'.upd wr
/-- A call that computes and writes nothing. -/
def ACalc (X : Ctx) (f : FuncId) (args : List AV) (v : AV) : Prop := ∀ H : AH, ACalls X f args H fun v' H' => v' = v ∧ H' = H
def aCall (X : Ctx) (f : FuncId) (args : List AV) (H : AH) (K : Post) : Prop := ∃ v rd wr, K v rd wr ∧ CLoc X f args H v rd wr
theorem ACalc.call {X : Ctx} {f : FuncId} {args : List AV} {v : AV} (h : ACalc X f args v) {H : AH} {K : Post} (hK : K v [] []) : aCall X f args H K :=
  ⟨v, [], [], hK, by simp, fun H' _ => h H'⟩

/-- What an operation does and where. -/
def OpSem (X : Ctx) (N : Nat) (o : Oper) (r : Regs) (H : AH) (v : AV) (wr : List (Nat × Slot)) : Prop :=
  ∀ μ ρ w0 a w, Rel X N μ ρ w0 r H a w → ∀ (Kc : Act → World → Prop) (Qc : Exit → Act → World → Prop),
    (∀ c w' μ', Ext μ (Live μ H) w μ' (Live μ' (H.upd wr)) w' → WRel X μ' ρ w0 (H.upd wr) w' → VRel μ' ρ (Live μ' (H.upd wr)) w' v c → Kc (a.put o.dst c) w') → o.wp X.P a w Kc Qc
def LocOp (X : Ctx) (N : Nat) (o : Oper) (r : Regs) (H : AH) (v : AV) (rd : List Nat) (wr : List (Nat × Slot)) : Prop :=
  (∀ i s, (i, s) ∈ wr → i ∈ rd) ∧
  ∀ (r' : Regs) (H' : AH), (∀ x ∈ o.op.operands.toList, r'.ev x = r.ev x) → (∀ i ∈ rd, H'.get i = H.get i) → OpSem X N o r' H' v wr

section
variable {X : Ctx} {N : Nat} {o : Oper} {r : Regs} {H : AH} {K : Post}
theorem SemOp.opSem {v : AV} {wr : List (Nat × Slot)} (h : SemOp X N o r H v wr) : OpSem X N o r H v wr := by
  intro μ ρ w0 a w hR Kc Qc hK
  obtain ⟨n, c, w', μ', he, hn, hx, hW, hv⟩ := h μ ρ w0 a w hR
  unfold Oper.wp
  rw [he]
  rcases hn with rfl | ⟨rfl, rfl⟩
  · exact hK c w' μ' hx hW hv
  · exact hK undef w' μ' hx hW hv
theorem Local.loc {v : AV} {rd : List Nat} {wr : List (Nat × Slot)} (h : Local X N o r H v rd wr) : LocOp X N o r H v rd wr :=
  ⟨h.1, fun r' H' hr hH => (h.2 r' H' hr hH).opSem⟩
theorem loc_of (h : ∃ v rd wr, K v rd wr ∧ Local X N o r H v rd wr) : ∃ v rd wr, K v rd wr ∧ LocOp X N o r H v rd wr :=
  let ⟨v, rd, wr, h1, h2⟩ := h; ⟨v, rd, wr, h1, h2.loc⟩

def aFn (X : Ctx) (f : AV) (args : List AV) (H : AH) (K : Post) : Prop :=
  match f with
  | .func (.func g) fs cs => aCall X g (fs ++ args ++ cs) H K
  | _ => False

theorem evs_rel {μ : Mu} {ρ : Nat → Value} {w0 : World} {H' : AH} {a : Act} {w : World} {r' : Regs} (hR : Rel X N μ ρ w0 r' H' a w) (xs : Array Operand) (h : ∀ x ∈ xs.toList, r'.ev x = r.ev x) :
    CRel μ ρ (Live μ H') w (xs.toList.map r.ev) (xs.map a.eval) := by
  refine ⟨by simp, fun j v hv => ?_⟩
  simp only [List.getElem?_map, Option.map_eq_some_iff] at hv
  obtain ⟨x, hx, rfl⟩ := hv
  refine ⟨a.eval x, ?_, by rw [← h x (List.mem_of_getElem? hx)]; exact hR.ev x⟩
  rw [Array.getElem?_toList] at hx
  simp [hx]

theorem CRel.append {μ : Mu} {ρ : Nat → Value} {L : LV} {w : World} {xs ys : List AV} {A B : Array Value} (h : CRel μ ρ L w xs A) (k : CRel μ ρ L w ys B) : CRel μ ρ L w (xs ++ ys) (A ++ B) := by
  refine ⟨by simp [h.1, k.1], fun j v hv => ?_⟩
  by_cases hj : j < xs.length
  · rw [List.getElem?_append_left hj] at hv
    obtain ⟨c, hc, hr⟩ := h.2 j v hv
    exact ⟨c, by rw [Array.getElem?_append_left (by rw [h.1]; exact hj)]; exact hc, hr⟩
  · rw [List.getElem?_append_right (by omega)] at hv
    obtain ⟨c, hc, hr⟩ := k.2 _ v hv
    exact ⟨c, by rw [Array.getElem?_append_right (by rw [h.1]; omega), h.1]; exact hc, hr⟩
theorem CRel.of_pts {μ : Mu} {ρ : Nat → Value} {L : LV} {w : World} {xs : List AV} {A : Array Value} (hs : A.size = xs.length)
    (h : ∀ j (h : j < xs.length) (h' : j < A.size), VRel μ ρ L w xs[j] A[j]) : CRel μ ρ L w xs A := by
  refine ⟨hs, fun j v hv => ?_⟩
  obtain ⟨hj, rfl⟩ := List.getElem?_eq_some_iff.1 hv
  exact ⟨A[j]'(by omega), Array.getElem?_eq_getElem (by omega), h j hj (by omega)⟩

theorem aFn_sound {f : Operand} {xs : Array Operand} {ats : Array TypeId} (ho : o.op = .call { callee := .value f, args := xs, argTypes := ats }) (h : aFn X (r.ev f) (xs.toList.map r.ev) H K) :
    ∃ v rd wr, K v rd wr ∧ LocOp X N o r H v rd wr := by
  unfold aFn at h
  split at h
  · rename_i g fs cs hf
    obtain ⟨v, rd, wr, hK, h1, h2⟩ := h
    refine ⟨v, rd, wr, hK, h1, fun r' H' hr' hH' μ ρ w0 a w hR Kc Qc hKc => ?_⟩
    have hops : ∀ x ∈ f :: xs.toList, r'.ev x = r.ev x := fun x hx => hr' x (by
      rw [ho]; simp only [Op.operands, Call.operands]; simpa using hx)
    have hvf := hR.ev f
    rw [hops f (by simp), hf] at hvf
    have hxs := evs_rel hR xs (fun x hx => hops x (by simp [hx]))
    obtain ⟨hc, hcall⟩ := h2 H' hH'
    generalize hfv : a.eval f = cf at hvf
    cases hvf with
    | func _ _ _ F C hF hC hFf hCc =>
      have hargs := ((CRel.of_pts hF hFf).append hxs).append (CRel.of_pts hC hCc)
      unfold Oper.wp
      have he : (execOp a.eval o).run X.P w = .ok (.enter g (F ++ xs.map a.eval ++ C)) w := by
        simp [execOp, ho, resolve, Deferred.ofValue, hfv, invoke, run_callFunc_ok hc]
      rw [he, Oper.upon_enter]
      refine Calls.mono (hcall μ ρ w0 w _ hR.world hargs) fun e w' he => ?_
      obtain ⟨c, v', H'', μ', rfl, ⟨rfl, rfl⟩, hx, hW, hv⟩ := he
      exact hKc c w' μ' hx hW hv
  · exact h.elim

def aCallOp (X : Ctx) (lv : Bool) (c : Call) (r : Regs) (H : AH) (K : Post) : Prop :=
  match c with
  | { callee := .value f, args := xs, argTypes := _ } => aFn X (r.ev f) (xs.toList.map r.ev) H K
  | { callee := .builtin .append, args := xs, argTypes := ts } =>
    match xs, ts with
    | ⟨[s, x]⟩, ⟨[t, t']⟩ => t' = t ∧ aAppend X lv t (r.ev s) (r.ev x) H K
    | _, _ => False
  | { callee := .builtin .len, args := xs, argTypes := ts } =>
    match xs, ts with
    | ⟨[x]⟩, ⟨[t]⟩ => aLen X t (r.ev x) K
    | _, _ => False
  | { callee := .builtin .copy, args := xs, argTypes := ts } =>
    match xs, ts with
    | ⟨[d, x]⟩, ⟨[t, s]⟩ => aCopy X t s (r.ev d) (r.ev x) H K
    | _, _ => False
  | { callee := .builtin .min, args := xs, argTypes := ts } =>
    match xs with
    | ⟨[x, y]⟩ => aMinMax false (r.ev x) (r.ev y) K
    | _ => False
  | { callee := .builtin .max, args := xs, argTypes := ts } =>
    match xs with
    | ⟨[x, y]⟩ => aMinMax true (r.ev x) (r.ev y) K
    | _ => False
  | _ => False
theorem aCallOp_sound {lv : Bool} {c : Call} (ho : o.op = .call c) (h : aCallOp X lv c r H K) : ∃ v rd wr, K v rd wr ∧ LocOp X N o r H v rd wr := by
  unfold aCallOp at h
  split at h
  · exact aFn_sound ho h
  · split at h
    · obtain ⟨rfl, h⟩ := h
      exact loc_of (aAppend_sound ho h)
    · exact h.elim
  · split at h
    · exact loc_of (aLen_sound ho h)
    · exact h.elim
  · split at h
    · exact loc_of (aCopy_sound ho h)
    · exact h.elim
  · split at h
    · exact loc_of (aMin_sound ho h)
    · exact h.elim
  · split at h
    · exact loc_of (aMax_sound ho h)
    · exact h.elim
  · exact h.elim

def aOp (X : Ctx) (lv : Bool) (op : Op) (r : Regs) (H : AH) (K : Post) : Prop :=
  match op with
  | .move x => K (r.ev x) [] []
  | .assign x => K (r.ev x) [] []
  | .pick c x y => aPick (r.ev c) (r.ev x) (r.ev y) K
  | .nilCheck x => (r.ev x).notNil = true ∧ K (r.ev x) [] []
  | .unOp op _ x => aUn op (r.ev x) K
  | .binOp op t x y _ => aBin X op t (r.ev x) (r.ev y) (constOp y) K
  | .load t x => aLoad X t (r.ev x) H K
  | .store t p x => aStore X t (r.ev p) (r.ev x) H K
  | .fieldAddr s x f => aFieldAddr X s (r.ev x) f K
  | .field s x f => aField X s (r.ev x) f K
  | .indexAddr t x i => aIndexAddr (H := H) X t (r.ev x) (r.ev i) K
  | .index t x i => aIndex X t (r.ev x) (r.ev i) K
  | .extract x i => aExtract (r.ev x) i K
  | .makeInterface t x => aMakeIface X t (r.ev x) K
  | .makeFunc fn f c => K (.func fn (f.toList.map r.ev) (c.toList.map r.ev)) [] []
  | .build t parts => aBuild X t (parts.toList.map fun p => (p.1, r.ev p.2)) K
  | .buildSlice t len parts => aBuildSlice X lv t len (parts.toList.map fun p => (p.1, r.ev p.2)) H K
  | .alloc t => aAlloc X t H K
  | .box _ x => aBox (r.ev x) H K
  | .slice t x lo hi mx => aSlice (H := H) X t (r.ev x) (lo.map r.ev) (hi.map r.ev) (mx.map r.ev) K
  | .convert src dst x => aConv X lv src dst (r.ev x) H K
  | .makeSlice t l c => aMake X lv t (r.ev l) (r.ev c) H K
  | .call c => aCallOp X lv c r H K
  | .makeMap _ none => aMakeMap H K
  | .lookup t x i false => aLookup X t (r.ev x) (r.ev i) H K
  | .mapUpdate t x i v => aMapUpdate X t (r.ev x) (r.ev i) (r.ev v) H K
  | _ => False

theorem aOp_sound {lv : Bool} (h : aOp X lv o.op r H K) : ∃ v rd wr, K v rd wr ∧ LocOp X N o r H v rd wr := by
  obtain ⟨dst, op, type, pos, after, guard⟩ := o
  by_cases hm : ∃ t, op = .makeMap t none
  · obtain ⟨t, rfl⟩ := hm
    exact loc_of (aMakeMap_sound rfl h)
  by_cases hl : ∃ t x i, op = .lookup t x i false
  · obtain ⟨t, x, i, rfl⟩ := hl
    exact loc_of (aLookup_sound rfl h)
  cases op <;> first
    | exact loc_of (aMapUpdate_sound rfl h)
    | (rename_i rv; cases rv <;> first | exact absurd ⟨_, rfl⟩ hm | exact absurd ⟨_, _, _, rfl⟩ hl | exact h.elim)
    | skip
  all_goals simp only [aOp] at h
  all_goals first
    | exact h.elim
    | exact loc_of (aMove_sound (.inl rfl) h)
    | exact loc_of (aMove_sound (.inr rfl) h)
    | exact loc_of (aPick_sound rfl h)
    | exact loc_of (aNil_sound rfl h)
    | exact loc_of (aUn_sound rfl h)
    | exact loc_of (aBin_sound rfl h)
    | exact loc_of (aLoad_sound rfl h)
    | exact loc_of (aStore_sound rfl h)
    | exact loc_of (aFieldAddr_sound rfl h)
    | exact loc_of (aField_sound rfl h)
    | exact loc_of (aIndexAddr_sound rfl h)
    | exact loc_of (aIndex_sound rfl h)
    | exact loc_of (aExtract_sound rfl h)
    | exact loc_of (aMakeIface_sound rfl h)
    | exact loc_of (aMakeFunc_sound rfl h)
    | exact loc_of (aBuild_sound rfl h)
    | exact loc_of (aBuildSlice_sound rfl h)
    | exact loc_of (aAlloc_sound rfl h)
    | exact loc_of (aBox_sound rfl h)
    | exact loc_of (aSlice_sound rfl h)
    | exact loc_of (aConv_sound rfl h)
    | exact loc_of (aMake_sound rfl h)
    | exact aCallOp_sound rfl h
end
end Go.Proofs.YtndoembhbfiokaaGreatDoor.Am
/- Regions: in the order of the text, and in any order. -/
set_option linter.unusedVariables false
set_option linter.unusedSimpArgs false
namespace Go.Proofs.YtndoembhbfiokaaGreatDoor.Am
open Go.RowKit

def lvOf (lv : List Tmp) (d : Option Tmp) : Bool :=
  match d with
  | some t => lv.contains t
  | none => false

/-- What an operation does at its place in a region. -/
def ActSem (X : Ctx) (N : Nat) (ops : Array Oper) (o : Oper) (r : Regs) (H : AH) (v : AV) (wr : List (Nat × Slot)) : Prop :=
  ∀ μ ρ w0 a w, Rel X N μ ρ w0 r H a w → ∀ (Kc : Act → World → Prop) (Qc : Exit → Act → World → Prop) (i : Nat), ops[i]? = some o →
    (∀ c w' μ', Ext μ (Live μ H) w μ' (Live μ' (H.upd wr)) w' → WRel X μ' ρ w0 (H.upd wr) w' → VRel μ' ρ (Live μ' (H.upd wr)) w' v c → Kc (a.put o.dst c) w') → wpOp X.P ops Qc i Kc a w
def LocAct (X : Ctx) (N : Nat) (ops : Array Oper) (o : Oper) (r : Regs) (H : AH) (v : AV) (rd : List Nat) (wr : List (Nat × Slot)) : Prop :=
  (∀ i s, (i, s) ∈ wr → i ∈ rd) ∧
  ∀ (r' : Regs) (H' : AH), (∀ t ∈ o.looksAt ops, r'.get t = r.get t) → (∀ i ∈ rd, H'.get i = H.get i) → ActSem X N ops o r' H' v wr

def aStep (X : Ctx) (ops : Array Oper) (lv : List Tmp) (o : Oper) (r : Regs) (H : AH) (K : Post) : Prop :=
  match o.guard with
  | none => aOp X (lvOf lv o.dst) o.op r H K
  | some (j, want) =>
    match (ops[j]?).bind (·.dst) with
    | some t =>
      match r.get t with
      | .bool b => (b = want → aOp X (lvOf lv o.dst) o.op r H K) ∧ (b ≠ want → K (.tup []) [] [])
      | .tup [] => K (.tup []) [] []
      | _ => False
    | none => False

section
variable {X : Ctx} {N : Nat} {ops : Array Oper} {lv : List Tmp}

theorem ev_of_looks {o : Oper} {r r' : Regs} (h : ∀ t ∈ o.looksAt ops, r'.get t = r.get t) : ∀ x ∈ o.op.operands.toList, r'.ev x = r.ev x := by
  intro x hx
  cases x with
  | tmp t => exact h t (List.mem_append_left _ (List.mem_filterMap.2 ⟨.tmp t, hx, rfl⟩))
  | _ => rfl

theorem yielded_rel {μ : Mu} {ρ : Nat → Value} {w0 : World} {r : Regs} {H : AH} {a : Act} {w : World} (hR : Rel X N μ ρ w0 r H a w) {j t : Nat} {b : Bool} (hj : (ops[j]?).bind (·.dst) = some t) (ht : r.get t = .bool b) :
    yielded ops a.tmps j = some b := by
  have hv := hR.regs t
  rw [ht] at hv
  generalize hc : a.tmps.getD t undef = c at hv
  cases hv
  have : a.tmps[t]? = some (.bool b) := by
    rw [Array.getD_eq_getD_getElem?] at hc
    cases he : a.tmps[t]? with
    | none => rw [he] at hc; simp [undef] at hc
    | some v => rw [he] at hc; simpa using hc
  simp [yielded, hj, this]

theorem yielded_none {μ : Mu} {ρ : Nat → Value} {w0 : World} {r : Regs} {H : AH} {a : Act} {w : World} (hR : Rel X N μ ρ w0 r H a w) {j t : Nat} (hj : (ops[j]?).bind (·.dst) = some t) (ht : r.get t = .tup []) :
    yielded ops a.tmps j = none := by
  have hv := hR.regs t
  rw [ht] at hv
  generalize hc : a.tmps.getD t undef = c at hv
  cases hv with
  | tup _ C hC _ =>
    simp only [yielded, hj, Option.bind_some]
    rw [Array.getD_eq_getD_getElem?] at hc
    cases he : a.tmps[t]? with
    | none => rfl
    | some v => rw [he] at hc; simp at hc; subst hc; rfl

theorem aStep_sound {o : Oper} {r : Regs} {H : AH} {K : Post} (h : aStep X ops lv o r H K) : ∃ v rd wr, K v rd wr ∧ LocAct X N ops o r H v rd wr := by
  unfold aStep at h
  split at h
  · rename_i hg
    obtain ⟨v, rd, wr, hK, h1, h2⟩ := aOp_sound h
    refine ⟨v, rd, wr, hK, h1, fun r' H' hr hH μ ρ w0 a w hR Kc Qc i hi hc => ?_⟩
    unfold wpOp
    have hw : Region.wanted o (yielded ops a.tmps) = true := by simp [Region.wanted, hg]
    simp only [hi, hw, if_true]
    exact .inl (h2 r' H' (ev_of_looks hr) hH μ ρ w0 a w hR Kc Qc hc)
  · rename_i j want hg
    split at h
    · rename_i t ht
      split at h
      · rename_i b hb
        have hlook : t ∈ o.looksAt ops := by simp [Oper.looksAt, hg, ht]
        by_cases hbw : b = want
        · obtain ⟨v, rd, wr, hK, h1, h2⟩ := aOp_sound (h.1 hbw)
          refine ⟨v, rd, wr, hK, h1, fun r' H' hr hH μ ρ w0 a w hR Kc Qc i hi hc => ?_⟩
          unfold wpOp
          have hw : Region.wanted o (yielded ops a.tmps) = true := by
            simp [Region.wanted, hg, yielded_rel hR ht (by rw [hr t hlook]; exact hb), hbw]
          simp only [hi, hw, if_true]
          exact .inl (h2 r' H' (ev_of_looks hr) hH μ ρ w0 a w hR Kc Qc hc)
        · refine ⟨_, _, _, h.2 hbw, by simp, fun r' H' hr hH μ ρ w0 a w hR Kc Qc i hi hc => ?_⟩
          unfold wpOp
          have hw : Region.wanted o (yielded ops a.tmps) = false := by
            simp [Region.wanted, hg, yielded_rel hR ht (by rw [hr t hlook]; exact hb), hbw]
          simp only [hi, hw]
          exact hc undef w μ (Ext.refl _ _ _) hR.world (.tup [] #[] rfl (fun j h => by simp at h))
      · rename_i hb
        have hlook : t ∈ o.looksAt ops := by simp [Oper.looksAt, hg, ht]
        refine ⟨_, _, _, h, by simp, fun r' H' hr hH μ ρ w0 a w hR Kc Qc i hi hc => ?_⟩
        unfold wpOp
        have hw : Region.wanted o (yielded ops a.tmps) = false := by
          simp [Region.wanted, hg, yielded_none hR ht (by rw [hr t hlook]; exact hb)]
        simp only [hi, hw]
        exact hc undef w μ (Ext.refl _ _ _) hR.world (.tup [] #[] rfl (fun j h => by simp at h))
      · exact h.elim
    · exact h.elim

/-- What a piece of code does: exits that are told, in states that are told. -/
inductive AX where
  | normal
  | exit (id : Nat)
  | ret
def AX.to : AX → Exit
  | .normal => .normal
  | .exit id => .exit id
  | .ret => .ret

def CQ (X : Ctx) (N : Nat) (μ : Mu) (ρ : Nat → Value) (w0 : World) (w : World) (L : LV) (Q : AX → Regs → AH → Prop) : Exit → Act → World → Prop :=
  fun e a' w' => ∃ x r' H' μ', x.to = e ∧ Q x r' H' ∧ Ext μ L w μ' (Live μ' H') w' ∧ Rel X N μ' ρ w0 r' H' a' w'
def AWp (X : Ctx) (N : Nat) (c : Code) (r : Regs) (H : AH) (Q : AX → Regs → AH → Prop) : Prop :=
  ∀ μ ρ w0 a w, Rel X N μ ρ w0 r H a w → c.wp X.P (CQ X N μ ρ w0 w (Live μ H) Q) a w

/-- In the order of the text a call may do whatever its contract says. -/
def aFnN (X : Ctx) (f : AV) (args : List AV) (H : AH) (K : AV → AH → Prop) : Prop :=
  match f with
  | .func (.func g) fs cs => ACalls X g (fs ++ args ++ cs) H K
  | _ => False
def aOpN (X : Ctx) (lv : Bool) (op : Op) (r : Regs) (H : AH) (K : AV → AH → Prop) : Prop :=
  match op with
  | .call { callee := .value f, args := xs, argTypes := _ } => aFnN X (r.ev f) (xs.toList.map r.ev) H K
  | op => aOp X lv op r H fun v _ wr => K v (H.upd wr)
def aStepN (X : Ctx) (ops : Array Oper) (lv : List Tmp) (o : Oper) (r : Regs) (H : AH) (K : AV → AH → Prop) : Prop :=
  match o.guard with
  | none => aOpN X (lvOf lv o.dst) o.op r H K
  | some (j, want) =>
    match (ops[j]?).bind (·.dst) with
    | some t =>
      match r.get t with
      | .bool b => (b = want → aOpN X (lvOf lv o.dst) o.op r H K) ∧ (b ≠ want → K (.tup []) H)
      | .tup [] => K (.tup []) H
      | _ => False
    | none => False

theorem aOpN_sound {o : Oper} {l : Bool} {r : Regs} {H : AH} {K : AV → AH → Prop} (h : aOpN X l o.op r H K) {μ : Mu} {ρ : Nat → Value} {w0 : World} {a : Act} {w : World} (hR : Rel X N μ ρ w0 r H a w)
    (Kc : Act → World → Prop) (Qc : Exit → Act → World → Prop)
    (hc : ∀ v H' c w' μ', K v H' → Ext μ (Live μ H) w μ' (Live μ' H') w' → WRel X μ' ρ w0 H' w' → VRel μ' ρ (Live μ' H') w' v c → Kc (a.put o.dst c) w') : o.wp X.P a w Kc Qc := by
  unfold aOpN at h
  split at h
  · rename_i f xs ts ho
    unfold aFnN at h
    split at h
    · rename_i g fs cs hf
      obtain ⟨hcb, hcall⟩ := h
      have hvf := hR.ev f
      rw [hf] at hvf
      have hxs := evs_rel hR xs (fun x hx => rfl)
      generalize hfv : a.eval f = cf at hvf
      cases hvf with
      | func _ _ _ F C hF hC hFf hCc =>
        have hargs := ((CRel.of_pts hF hFf).append hxs).append (CRel.of_pts hC hCc)
        unfold Oper.wp
        have he : (execOp a.eval o).run X.P w = .ok (.enter g (F ++ xs.map a.eval ++ C)) w := by
          simp [execOp, ho, resolve, Deferred.ofValue, hfv, invoke, run_callFunc_ok hcb]
        rw [he, Oper.upon_enter]
        refine Calls.mono (hcall μ ρ w0 w _ hR.world hargs) fun e w' he => ?_
        obtain ⟨c, v', H'', μ', rfl, hK, hx, hW, hv⟩ := he
        exact hc v' H'' c w' μ' hK hx hW hv
    · exact h.elim
  · obtain ⟨v, rd, wr, hK, h1, h2⟩ := aOp_sound (N := N) h
    exact h2 r H (fun _ _ => rfl) (fun _ _ => rfl) μ ρ w0 a w hR Kc Qc fun c w' μ' hx hW hv => hc v _ c w' μ' hK hx hW hv

theorem aStepN_sound {o : Oper} {r : Regs} {H : AH} {K : AV → AH → Prop} (h : aStepN X ops lv o r H K) {μ : Mu} {ρ : Nat → Value} {w0 : World} {a : Act} {w : World} (hR : Rel X N μ ρ w0 r H a w)
    (Kc : Act → World → Prop) (Qc : Exit → Act → World → Prop) (i : Nat) (hi : ops[i]? = some o)
    (hc : ∀ v H' c w' μ', K v H' → Ext μ (Live μ H) w μ' (Live μ' H') w' → WRel X μ' ρ w0 H' w' → VRel μ' ρ (Live μ' H') w' v c → Kc (a.put o.dst c) w') : wpOp X.P ops Qc i Kc a w := by
  unfold aStepN at h
  split at h
  · rename_i hg
    unfold wpOp
    have hw : Region.wanted o (yielded ops a.tmps) = true := by simp [Region.wanted, hg]
    simp only [hi, hw, if_true]
    exact .inl (aOpN_sound h hR Kc Qc hc)
  · rename_i j want hg
    split at h
    · rename_i t ht
      split at h
      · rename_i b hb
        by_cases hbw : b = want
        · unfold wpOp
          have hw : Region.wanted o (yielded ops a.tmps) = true := by
            simp [Region.wanted, hg, yielded_rel hR ht hb, hbw]
          simp only [hi, hw, if_true]
          exact .inl (aOpN_sound (h.1 hbw) hR Kc Qc hc)
        · unfold wpOp
          have hw : Region.wanted o (yielded ops a.tmps) = false := by
            simp [Region.wanted, hg, yielded_rel hR ht hb, hbw]
          simp only [hi, hw]
          exact hc _ _ undef w μ (h.2 hbw) (Ext.refl _ _ _) hR.world (.tup [] #[] rfl (fun j h => by simp at h))
      · rename_i hb
        unfold wpOp
        have hw : Region.wanted o (yielded ops a.tmps) = false := by
          simp [Region.wanted, hg, yielded_none hR ht hb]
        simp only [hi, hw]
        exact hc _ _ undef w μ h (Ext.refl _ _ _) hR.world (.tup [] #[] rfl (fun j h => by simp at h))
      · exact h.elim
    · exact h.elim

def aOps (X : Ctx) (N : Nat) (ops : Array Oper) (lv : List Tmp) : List Oper → Regs → AH → (Regs → AH → Prop) → Prop
  | [], r, H, K => K r H
  | o :: os, r, H, K => aStepN X ops lv o r H fun v H' => aOps X N ops lv os (r.put N o.dst v) H' K

theorem aOps_wp {K : Regs → AH → Prop} {ρ : Nat → Value} {w0 : World} {Q : Exit → Act → World → Prop} : ∀ (os : List Oper) (k : Nat) (r : Regs) (H : AH), (∀ i, ops[k + i]? = os[i]?) → aOps X N ops lv os r H K →
    ∀ μ a w, Rel X N μ ρ w0 r H a w → (∀ r' H' μ' a' w', K r' H' → Ext μ (Live μ H) w μ' (Live μ' H') w' → Rel X N μ' ρ w0 r' H' a' w' → Q .normal a' w') → wpOps X.P ops Q (List.range' k os.length) a w
  | [], k, r, H, _, h, μ, a, w, hR, hQ => by
    simp only [List.length_nil, List.range'_zero, wpOps]
    exact hQ r H μ a w h (Ext.refl _ _ _) hR
  | o :: os, k, r, H, hi, h, μ, a, w, hR, hQ => by
    rw [List.length_cons, List.range'_succ, wpOps_cons]
    refine aStepN_sound h hR _ _ k (by have := hi 0; simpa using this) fun v H' c w' μ' hK hx hW hv => ?_
    refine aOps_wp os (k + 1) _ _ (fun i => by have := hi (i + 1); rw [Nat.add_assoc, Nat.add_comm 1 i]; simpa using this) hK μ' _ w' (hR.put hx hW hv) fun r' H' μ'' a' w'' hK' hx' hR' => hQ r' H' μ'' a' w'' hK' (hx.trans hx') hR'

theorem aOps_sound {id : Nat} {r : Regs} {H : AH} {Q : AX → Regs → AH → Prop} (h : aOps X N ops lv ops.toList r H (Q .normal)) : AWp X N (.region id ops false) r H Q := by
  intro μ ρ w0 a w hR
  refine wp_region ?_
  rw [List.range_eq_range', show ops.size = ops.toList.length by simp]
  exact aOps_wp ops.toList 0 r H (fun i => by simp) h μ a w hR fun r' H' μ' a' w' hK hx hR' => ⟨.normal, r', H', μ', rfl, hK, hx, hR'⟩
end

/-! ### Any order -/
structure Upd (A : Type) where
  sup : Nat → Prop
  val : Nat → A
open Classical in
noncomputable def Upd.on {A : Type} (u : Upd A) (f : Nat → A) : Nat → A := fun k => if u.sup k then u.val k else f k
theorem Upd.on_pos {A : Type} {u : Upd A} {k : Nat} (h : u.sup k) (f : Nat → A) : u.on f k = u.val k := if_pos h
theorem Upd.on_neg {A : Type} {u : Upd A} {k : Nat} (h : ¬ u.sup k) (f : Nat → A) : u.on f k = f k := if_neg h
noncomputable def appl {A : Type} : List (Upd A) → Nat → (Nat → Bool) → (Nat → A) → Nat → A
  | [], _, _, f => f
  | u :: us, i, S, f => appl us (i + 1) S (if S i = true then u.on f else f)

section
variable {A : Type}
theorem appl_congr (k : Nat) : ∀ (us : List (Upd A)) (i : Nat) (S S' : Nat → Bool) (f f' : Nat → A), f k = f' k → (∀ (j : Nat) (u : Upd A), us[j]? = some u → u.sup k → S (i + j) = S' (i + j)) → appl us i S f k = appl us i S' f' k
  | [], _, _, _, _, _, hf, _ => hf
  | u :: us, i, S, S', f, f', hf, h => by
    simp only [appl]
    refine appl_congr k us (i + 1) S S' _ _ ?_ (fun j u' hj hu => by have := h (j + 1) u' (by simpa using hj) hu; rw [show i + 1 + j = i + (j + 1) by omega]; exact this)
    by_cases hu : u.sup k
    · have := h 0 u (by simp) hu
      rw [Nat.add_zero] at this
      rw [this]
      by_cases hs : S' i = true
      · simp [hs, Upd.on, hu]
      · simp [hs, hf]
    · by_cases h1 : S i = true <;> by_cases h2 : S' i = true <;> simp [h1, h2, Upd.on, hu, hf]

theorem appl_none (k : Nat) : ∀ (us : List (Upd A)) (i : Nat) (S : Nat → Bool) (f : Nat → A), (∀ (j : Nat) (u : Upd A), us[j]? = some u → u.sup k → S (i + j) = false) → appl us i S f k = f k
  | [], _, _, _, _ => rfl
  | u :: us, i, S, f, h => by
    simp only [appl]
    rw [appl_none k us (i + 1) S _ (fun j u' hj hu => by have := h (j + 1) u' (by simpa using hj) hu; rw [show i + 1 + j = i + (j + 1) by omega]; exact this)]
    by_cases hu : u.sup k
    · have := h 0 u (by simp) hu
      rw [Nat.add_zero] at this
      simp [this]
    · by_cases h1 : S i = true <;> simp [h1, Upd.on, hu]

theorem appl_last (k : Nat) : ∀ (us : List (Upd A)) (i : Nat) (S : Nat → Bool) (f : Nat → A) (j : Nat) (u : Upd A), us[j]? = some u → u.sup k → S (i + j) = true →
    (∀ (j' : Nat) (u' : Upd A), us[j']? = some u' → j < j' → u'.sup k → S (i + j') = false) → appl us i S f k = u.val k
  | [], _, _, _, _, _, hj, _, _, _ => by simp at hj
  | u0 :: us, i, S, f, 0, u, hj, hu, hS, h => by
    simp only [List.getElem?_cons_zero, Option.some.injEq] at hj
    subst hj
    simp only [appl]
    rw [appl_none k us (i + 1) S _ (fun j u' hj hu => by have := h (j + 1) u' (by simpa using hj) (by omega) hu; rw [show i + 1 + j = i + (j + 1) by omega]; exact this)]
    rw [Nat.add_zero] at hS
    simp [hS, Upd.on, hu]
  | u0 :: us, i, S, f, j + 1, u, hj, hu, hS, h => by
    simp only [appl]
    exact appl_last k us (i + 1) S _ j u (by simpa using hj) hu (by rw [show i + 1 + j = i + (j + 1) by omega]; exact hS)
      (fun j' u' hj' hlt hu' => by have := h (j' + 1) u' (by simpa using hj') (by omega) hu'; rw [show i + 1 + j' = i + (j' + 1) by omega]; exact this)

/-- One more is done, and none that comes after it and meets it has been. -/
theorem appl_step {us : List (Upd A)} {S S' : Nat → Bool} {f : Nat → A} {j : Nat} {u : Upd A} (hj : us[j]? = some u) (hS : S' j = true) (hSS : ∀ i, i ≠ j → S' i = S i)
    (h : ∀ (k j' : Nat) (u' : Upd A), us[j']? = some u' → j < j' → u.sup k → u'.sup k → S j' = false) (k : Nat) : appl us 0 S' f k = u.on (appl us 0 S f) k := by
  by_cases hu : u.sup k
  · rw [appl_last k us 0 S' f j u hj hu (by simpa using hS) (fun j' u' hj' hlt hu' => by rw [Nat.zero_add, hSS j' (by omega)]; exact h k j' u' hj' hlt hu hu')]
    simp [Upd.on, hu]
  · simp only [Upd.on, hu, if_false]
    refine appl_congr k us 0 S' S f f rfl fun i u' hi hu' => ?_
    rw [Nat.zero_add]
    refine hSS i fun e => ?_
    subst e
    rw [hj] at hi
    exact hu (Option.some.inj hi ▸ hu')
end

structure Ent where
  o : Oper
  v : AV
  rd : List Nat
  wr : List (Nat × Slot)

def Ent.U (N : Nat) (e : Ent) : Upd AV := ⟨fun t => e.o.dst = some t ∧ t < N, fun _ => e.v⟩
def lastOf : List (Nat × Slot) → Nat → Slot
  | [], _ => .free
  | (i, s) :: l, k => if k ∈ l.map (·.1) then lastOf l k else if k = i then s else .free
def Ent.W (e : Ent) : Upd Slot := ⟨fun k => k ∈ e.wr.map (·.1), lastOf e.wr⟩

theorem get_put_on (N : Nat) (e : Ent) (r : Regs) (t : Nat) : (r.put N e.o.dst e.v).get t = (e.U N).on r.get t := by
  by_cases h : (e.U N).sup t
  · rw [Upd.on_pos h, h.1]
    simp [Regs.put, h.2, Regs.get, Ent.U]
  · rw [Upd.on_neg h]
    replace h : ¬ (e.o.dst = some t ∧ t < N) := h
    generalize e.o.dst = dd at h ⊢
    cases dd with
    | none => rfl
    | some d =>
      simp only [Regs.put]
      by_cases hN : d < N
      · rw [if_pos hN]
        have : ¬ t = d := fun ht => h ⟨by rw [ht], ht ▸ hN⟩
        simp [Regs.get, this]
      · rw [if_neg hN]

theorem upd_get : ∀ (wr : List (Nat × Slot)) (H : AH) (k : Nat), (H.upd wr).get k = if k ∈ wr.map (·.1) then lastOf wr k else H.get k
  | [], H, k => by simp
  | (i, s) :: l, H, k => by
    simp only [AH.upd, List.map_cons, List.mem_cons]
    rw [upd_get l]
    by_cases hl : k ∈ l.map (·.1)
    · simp only [hl, or_true, if_true, lastOf]
    · simp only [hl, or_false, if_false, lastOf]
      by_cases hk : k = i
      · subst hk; simp [AH.put_same]
      · simp [hk, AH.put_ne]
theorem get_upd_on (e : Ent) (H : AH) (k : Nat) : (H.upd e.wr).get k = e.W.on H.get k := by
  rw [upd_get]
  by_cases h : k ∈ e.wr.map (·.1)
  · rw [if_pos h, Upd.on_pos (u := e.W) h]; rfl
  · rw [if_neg h, Upd.on_neg (u := e.W) h]

theorem Live_congr {μ : Mu} {H H' : AH} (h : ∀ i, H'.get i = H.get i) : Live μ H' = Live μ H := by
  simp only [Live, h]
theorem Rel.congr {X : Ctx} {N : Nat} {μ : Mu} {ρ : Nat → Value} {w0 : World} {r r' : Regs} {H H' : AH} {a : Act} {w : World} (h : Rel X N μ ρ w0 r H a w) (hr : ∀ t, r'.get t = r.get t) (hH : ∀ i, H'.get i = H.get i) :
    Rel X N μ ρ w0 r' H' a w := by
  refine ⟨h.tsize, h.defers, fun t => by rw [hr, Live_congr hH]; exact h.regs t, h.world.ok, h.world.below, fun i => ?_, fun i j b hi hj => ?_⟩
  · rw [Live_congr hH, hH]; exact h.world.slot i
  · rw [hH] at hi hj; exact h.world.inj i j b hi hj

/-- Is the one bound to come after the other? -/
def reach (ops : Array Oper) : Nat → Nat → Nat → Bool
  | 0, _, _ => false
  | n + 1, j, i => match ops[j]? with
    | some o => o.after.any fun e => Region.binds .any e && (e.on == i || reach ops n e.on i)
    | none => false

theorem reach_listed {ops : Array Oper} {listed : Array Bool} (hd : ∀ j o e, listed.getD j false = true → ops[j]? = some o → e ∈ o.after → Region.binds .any e = true → listed.getD e.on false = true) :
    ∀ n j i, reach ops n j i = true → (∀ o e, ops[j]? = some o → e ∈ o.after → Region.binds .any e = true → listed.getD e.on false = true) → listed.getD i false = true
  | 0, _, _, h, _ => by simp [reach] at h
  | n + 1, j, i, h, hj => by
    simp only [reach] at h
    split at h
    · rename_i o ho
      obtain ⟨e, he, hb⟩ := Array.any_eq_true'.1 h
      simp only [Bool.and_eq_true, Bool.or_eq_true, beq_iff_eq] at hb
      have h1 := hj o e ho he hb.1
      rcases hb.2 with h2 | h2
      · rw [← h2]; exact h1
      · exact reach_listed hd n e.on i h2 fun o' e' ho' he' hb' => hd e.on o' e' h1 ho' he' hb'
    · cases h

/-- The registers' part of what any order asks; and bonds go back in the text. -/
def chkR (ops : Array Oper) : Bool :=
  (List.range ops.size).all fun j =>
    match ops[j]? with
    | none => false
    | some oj => (oj.after.all fun e => !Region.binds .any e || decide (e.on < j)) &&
      (List.range j).all fun i =>
        match ops[i]? with
        | none => false
        | some oi => oi.apart ops oj || reach ops 4 j i
theorem chkR_spec {ops : Array Oper} (h : chkR ops = true) :
    (∀ j oj, ops[j]? = some oj → ∀ e ∈ oj.after, Region.binds .any e = true → e.on < j) ∧
    ∀ i j oi oj, i < j → ops[i]? = some oi → ops[j]? = some oj → oi.apart ops oj = true ∨ reach ops 4 j i = true := by
  simp only [chkR, List.all_eq_true, List.mem_range] at h
  constructor
  · intro j oj hj e he hb
    have := h j (Array.getElem?_eq_some_iff.1 hj).1
    simp only [hj, Bool.and_eq_true] at this
    have h1 := Array.all_eq_true_iff_forall_mem.1 this.1 e he
    simpa [hb] using h1
  · intro i j oi oj hij hi hj
    have := h j (Array.getElem?_eq_some_iff.1 hj).1
    simp only [hj, Bool.and_eq_true, List.all_eq_true, List.mem_range] at this
    have h1 := this.2 i hij
    simpa [hi] using h1

/-- The memory's part. -/
def chkH (ops : Array Oper) (T : List (Nat × List Nat × List Nat)) : Prop :=
  T.Pairwise fun x y => reach ops 4 x.1 y.1 = true ∨ ((∀ k ∈ y.2.2, k ∉ x.2.1) ∧ ∀ k ∈ x.2.2, k ∉ y.2.1)
def addT (i : Nat) (rd : List Nat) (wr : List (Nat × Slot)) (T : List (Nat × List Nat × List Nat)) : List (Nat × List Nat × List Nat) :=
  match rd with
  | [] => T
  | _ => (i, rd, wr.map (·.1)) :: T

def aTab (X : Ctx) (N : Nat) (ops : Array Oper) (lv : List Tmp) : List Oper → Nat → Regs → AH → List (Nat × List Nat × List Nat) → (Regs → AH → Prop) → Prop
  | [], _, r, H, T, K => chkH ops T ∧ K r H
  | o :: os, i, r, H, T, K => aStep X ops lv o r H fun v rd wr => aTab X N ops lv os (i + 1) (r.put N o.dst v) (H.upd wr) (addT i rd wr T) K
end Go.Proofs.YtndoembhbfiokaaGreatDoor.Am
/- Regions in any order. -/
set_option linter.unusedVariables false
set_option linter.unusedSimpArgs false
namespace Go.Proofs.YtndoembhbfiokaaGreatDoor.Am
open Go.RowKit

def stR (N : Nat) (es : List Ent) (r : Regs) : Regs := es.foldl (fun r e => r.put N e.o.dst e.v) r
def stH (es : List Ent) (H : AH) : AH := es.foldl (fun H e => H.upd e.wr) H

theorem stR_appl (N : Nat) : ∀ (es : List Ent) (i0 j : Nat) (r : Regs) (f : Nat → AV), (∀ t, r.get t = f t) → ∀ t, (stR N (es.take j) r).get t = appl (es.map (·.U N)) i0 (fun i => decide (i < i0 + j)) f t
  | [], i0, j, r, f, hf, t => by simp [stR, appl, hf]
  | e :: es, i0, 0, r, f, hf, t => by
    rw [appl_none t _ i0 _ f (fun j u _ _ => by simp)]
    simp [stR, hf]
  | e :: es, i0, j + 1, r, f, hf, t => by
    have hS : (fun i => decide (i < i0 + (j + 1))) = fun i => decide (i < i0 + 1 + j) := by funext i; congr 1; exact propext (by omega)
    simp only [List.map_cons, appl, hS]
    have h0 : decide (i0 < i0 + 1 + j) = true := by simp; omega
    simp only [h0, if_true]
    exact stR_appl N es (i0 + 1) j (r.put N e.o.dst e.v) _ (fun t => by rw [get_put_on]; exact congrArg (fun g => Upd.on (e.U N) g t) (funext hf)) t

theorem stH_appl : ∀ (es : List Ent) (i0 j : Nat) (H : AH) (f : Nat → Slot), (∀ t, H.get t = f t) → ∀ t, (stH (es.take j) H).get t = appl (es.map (·.W)) i0 (fun i => decide (i < i0 + j)) f t
  | [], i0, j, H, f, hf, t => by simp [stH, appl, hf]
  | e :: es, i0, 0, H, f, hf, t => by
    rw [appl_none t _ i0 _ f (fun j u _ _ => by simp)]
    simp [stH, hf]
  | e :: es, i0, j + 1, H, f, hf, t => by
    have hS : (fun i => decide (i < i0 + (j + 1))) = fun i => decide (i < i0 + 1 + j) := by funext i; congr 1; exact propext (by omega)
    simp only [List.map_cons, appl, hS]
    have h0 : decide (i0 < i0 + 1 + j) = true := by simp; omega
    simp only [h0, if_true]
    exact stH_appl es (i0 + 1) j (H.upd e.wr) _ (fun t => by rw [get_upd_on]; exact congrArg (fun g => Upd.on e.W g t) (funext hf)) t

def tabOf : Nat → List Ent → List (Nat × List Nat × List Nat) → List (Nat × List Nat × List Nat)
  | _, [], T => T
  | i, e :: es, T => tabOf (i + 1) es (addT i e.rd e.wr T)

theorem addT_mem {i : Nat} {rd : List Nat} {wr : List (Nat × Slot)} {T : List (Nat × List Nat × List Nat)} {y : Nat × List Nat × List Nat} (h : y ∈ T) : y ∈ addT i rd wr T := by
  unfold addT; split
  · exact h
  · exact List.mem_cons_of_mem _ h
theorem addT_new {i : Nat} {rd : List Nat} {wr : List (Nat × Slot)} {T : List (Nat × List Nat × List Nat)} (h : rd ≠ []) : addT i rd wr T = (i, rd, wr.map (·.1)) :: T := by
  unfold addT; split
  · exact absurd rfl h
  · rfl
theorem tabOf_pair {R : (Nat × List Nat × List Nat) → (Nat × List Nat × List Nat) → Prop} : ∀ (es : List Ent) (i : Nat) (T : List (Nat × List Nat × List Nat)), (tabOf i es T).Pairwise R → T.Pairwise R
  | [], _, _, h => h
  | e :: es, i, T, h => by
    have := tabOf_pair es (i + 1) _ h
    unfold addT at this
    split at this
    · exact this
    · exact (List.pairwise_cons.1 this).2
theorem tabOf_old {R : (Nat × List Nat × List Nat) → (Nat × List Nat × List Nat) → Prop} : ∀ (es : List Ent) (i : Nat) (T : List (Nat × List Nat × List Nat)), (tabOf i es T).Pairwise R → ∀ y ∈ T, ∀ (j : Nat) (e : Ent), es[j]? = some e → e.rd ≠ [] → R (i + j, e.rd, e.wr.map (·.1)) y
  | [], _, _, _, _, _, _, _, hj, _ => by simp at hj
  | e0 :: es, i, T, h, y, hy, 0, e, hj, hne => by
    simp only [List.getElem?_cons_zero, Option.some.injEq] at hj
    subst hj
    have := tabOf_pair es (i + 1) _ h
    rw [addT_new hne] at this
    exact (List.pairwise_cons.1 this).1 y hy
  | e0 :: es, i, T, h, y, hy, j + 1, e, hj, hne => by
    have := tabOf_old es (i + 1) _ h y (addT_mem hy) j e (by simpa using hj) hne
    rw [show i + (j + 1) = i + 1 + j by omega]
    exact this
theorem tabOf_two {R : (Nat × List Nat × List Nat) → (Nat × List Nat × List Nat) → Prop} : ∀ (es : List Ent) (i : Nat) (T : List (Nat × List Nat × List Nat)), (tabOf i es T).Pairwise R →
    ∀ (k j : Nat) (ek ej : Ent), k < j → es[k]? = some ek → es[j]? = some ej → ek.rd ≠ [] → ej.rd ≠ [] → R (i + j, ej.rd, ej.wr.map (·.1)) (i + k, ek.rd, ek.wr.map (·.1))
  | [], _, _, _, _, _, _, _, _, hk, _, _, _ => by simp at hk
  | e0 :: es, i, T, h, 0, j + 1, ek, ej, hlt, hk, hj, h1, h2 => by
    simp only [List.getElem?_cons_zero, Option.some.injEq] at hk
    subst hk
    have := tabOf_old es (i + 1) _ h (i, e0.rd, e0.wr.map (·.1)) (by rw [addT_new h1]; simp) j ej (by simpa using hj) h2
    rw [show i + (j + 1) = i + 1 + j by omega]
    exact this
  | e0 :: es, i, T, h, k + 1, j + 1, ek, ej, hlt, hk, hj, h1, h2 => by
    have := tabOf_two es (i + 1) _ h k j ek ej (by omega) (by simpa using hk) (by simpa using hj) h1 h2
    rw [show i + (j + 1) = i + 1 + j by omega, show i + (k + 1) = i + 1 + k by omega]
    exact this
  | e0 :: es, i, T, h, k, 0, ek, ej, hlt, _, _, _, _ => by omega

section
variable {X : Ctx} {N : Nat} {ops : Array Oper} {lv : List Tmp}

theorem aTab_ents : ∀ (os : List Oper) (i : Nat) (r : Regs) (H : AH) (T : List (Nat × List Nat × List Nat)) (K : Regs → AH → Prop), aTab X N ops lv os i r H T K →
    ∃ es : List Ent, es.map (·.o) = os ∧ (∀ (j : Nat) (e : Ent), es[j]? = some e → LocAct X N ops e.o (stR N (es.take j) r) (stH (es.take j) H) e.v e.rd e.wr) ∧ chkH ops (tabOf i es T) ∧ K (stR N es r) (stH es H)
  | [], i, r, H, T, K, h => ⟨[], rfl, by simp, h.1, h.2⟩
  | o :: os, i, r, H, T, K, h => by
    obtain ⟨v, rd, wr, h1, h2⟩ := aStep_sound (N := N) h
    obtain ⟨es, e1, e2, e3, e4⟩ := aTab_ents os (i + 1) _ _ _ K h1
    refine ⟨⟨o, v, rd, wr⟩ :: es, by simp [e1], fun j e hj => ?_, e3, e4⟩
    cases j with
    | zero =>
      simp only [List.getElem?_cons_zero, Option.some.injEq] at hj
      subst hj
      exact h2
    | succ j => exact e2 j e (by simpa using hj)

theorem countP_less {p p' : Nat → Bool} {j : Nat} (h1 : p j = true) (h2 : p' j = false) (h : ∀ i, i ≠ j → p' i = p i) : ∀ l : List Nat, l.Nodup → j ∈ l → l.countP p' + 1 = l.countP p
  | [], _, hj => by simp at hj
  | x :: l, hn, hj => by
    obtain ⟨hx, hn⟩ := List.nodup_cons.1 hn
    by_cases hxj : x = j
    · subst hxj
      have : l.countP p' = l.countP p := List.countP_congr fun y hy => by rw [h y (fun e => hx (e ▸ hy))]
      rw [List.countP_cons_of_pos h1, List.countP_cons_of_neg (by simp [h2]), this]
    · have := countP_less h1 h2 h l hn ((List.mem_cons.1 hj).resolve_left (Ne.symm hxj))
      by_cases hp : p x = true
      · rw [List.countP_cons_of_pos hp, List.countP_cons_of_pos (by rw [h x hxj]; exact hp)]; omega
      · rw [List.countP_cons_of_neg hp, List.countP_cons_of_neg (by rw [h x hxj]; exact hp)]; exact this

theorem getD_tf {listed : Array Bool} {i : Nat} (h : i < listed.size) : listed.getD i true = listed.getD i false := by
  simp [Array.getD_eq_getD_getElem?, Array.getElem?_eq_getElem h]

theorem ready_nil {listed : Array Bool} (hs : listed.size = ops.size) (hR : chkR ops = true) (h : Region.ready .any ops listed = []) : ∀ i, i < ops.size → listed.getD i false = true := by
  intro i
  induction i using Nat.strongRecOn with
  | _ i ih =>
    intro hi
    cases hl : listed.getD i false with
    | true => rfl
    | false =>
      have : i ∈ Region.ready .any ops listed := mem_ready.2 ⟨by rw [getD_tf (by omega)]; exact hl, ops[i], Array.getElem?_eq_getElem hi, fun e he hb => by
        have := (chkR_spec hR).1 i _ (Array.getElem?_eq_getElem hi) e he hb
        exact ih e.on this (by omega)⟩
      rw [h] at this
      cases this

variable {es : List Ent} {r0 : Regs} {H0 : AH} {ρ : Nat → Value} {w0 : World} {μ0 : Mu} {L0 : LV} {ws : World} {Q : Exit → Act → World → Prop}

theorem draw_any (hlen : es.length = ops.size) (hes : ∀ (j : Nat) (e : Ent), es[j]? = some e → ops[j]? = some e.o)
    (hloc : ∀ (j : Nat) (e : Ent), es[j]? = some e → LocAct X N ops e.o (stR N (es.take j) r0) (stH (es.take j) H0) e.v e.rd e.wr) (hR : chkR ops = true)
    (hH : ∀ (i j : Nat) (ei ej : Ent), i < j → es[i]? = some ei → es[j]? = some ej → reach ops 4 j i = true ∨ ((∀ k ∈ ei.wr.map (·.1), k ∉ ej.rd) ∧ ∀ k ∈ ej.wr.map (·.1), k ∉ ei.rd))
    (hQ : ∀ μ' a' w' , Ext μ0 L0 ws μ' (Live μ' (stH es H0)) w' → Rel X N μ' ρ w0 (stR N es r0) (stH es H0) a' w' → Q .normal a' w') :
    ∀ (fuel : Nat) (listed : Array Bool) (a : Act) (w : World) (μ : Mu) (r : Regs) (H : AH), listed.size = ops.size →
      (∀ j o e, listed.getD j false = true → ops[j]? = some o → e ∈ o.after → Region.binds .any e = true → listed.getD e.on false = true) →
      (List.range ops.size).countP (fun i => !listed.getD i false) ≤ fuel →
      (∀ t, r.get t = appl (es.map (·.U N)) 0 (fun i => listed.getD i false) r0.get t) → (∀ k, H.get k = appl (es.map (·.W)) 0 (fun i => listed.getD i false) H0.get k) →
      Rel X N μ ρ w0 r H a w → Ext μ0 L0 ws μ (Live μ H) w → wpAny X.P .any ops Q fuel listed a w := by
  have done : ∀ (listed : Array Bool) (a : Act) (w : World) (μ : Mu) (r : Regs) (H : AH), listed.size = ops.size → Region.ready .any ops listed = [] →
      (∀ t, r.get t = appl (es.map (·.U N)) 0 (fun i => listed.getD i false) r0.get t) → (∀ k, H.get k = appl (es.map (·.W)) 0 (fun i => listed.getD i false) H0.get k) →
      Rel X N μ ρ w0 r H a w → Ext μ0 L0 ws μ (Live μ H) w → Q .normal a w := by
    intro listed a w μ r H hs hr hreg hheap hrel hx
    have hall := ready_nil hs hR hr
    have h1 : ∀ t, (stR N es r0).get t = r.get t := fun t => by
      have := stR_appl N es 0 es.length r0 r0.get (fun _ => rfl) t
      rw [List.take_length] at this
      rw [this, hreg]
      refine appl_congr t _ 0 _ _ _ _ rfl fun j u hj _ => ?_
      have : j < es.length := by have := (List.getElem?_eq_some_iff.1 hj).1; simpa using this
      simp only [Nat.zero_add]
      rw [hall j (by omega)]
      simpa using this
    have h2 : ∀ t, (stH es H0).get t = H.get t := fun t => by
      have := stH_appl es 0 es.length H0 H0.get (fun _ => rfl) t
      rw [List.take_length] at this
      rw [this, hheap]
      refine appl_congr t _ 0 _ _ _ _ rfl fun j u hj _ => ?_
      have : j < es.length := by have := (List.getElem?_eq_some_iff.1 hj).1; simpa using this
      simp only [Nat.zero_add]
      rw [hall j (by omega)]
      simpa using this
    exact hQ μ a w (by rw [Live_congr h2]; exact hx) (hrel.congr h1 h2)
  intro fuel
  induction fuel with
  | zero =>
    intro listed a w μ r H hs hd hc hreg hheap hrel hx
    have hr : Region.ready .any ops listed = [] := by
      cases hr : Region.ready .any ops listed with
      | nil => rfl
      | cons x l =>
        exfalso
        have hx : x ∈ Region.ready .any ops listed := by rw [hr]; simp
        obtain ⟨h0, o, ho, _⟩ := mem_ready.1 hx
        have hlt := (Array.getElem?_eq_some_iff.1 ho).1
        have : 0 < (List.range ops.size).countP (fun i => !listed.getD i false) := List.countP_pos_iff.2 ⟨x, List.mem_range.2 hlt, by rw [← getD_tf (by omega), h0]; rfl⟩
        omega
    exact ⟨hr, done listed a w μ r H hs hr hreg hheap hrel hx⟩
  | succ fuel ih =>
    intro listed a w μ r H hs hd hc hreg hheap hrel hx
    refine ⟨fun hr => done listed a w μ r H hs hr hreg hheap hrel hx, fun j hj => ?_⟩
    obtain ⟨hun, oj, hoj, hall⟩ := mem_ready.1 hj
    have hjlt := (Array.getElem?_eq_some_iff.1 hoj).1
    have hunf : listed.getD j false = false := by rw [← getD_tf (by omega)]; exact hun
    obtain ⟨ej, hej⟩ : ∃ e, es[j]? = some e := ⟨es[j]'(by omega), List.getElem?_eq_getElem (by omega)⟩
    have hoe : oj = ej.o := by have := hes j ej hej; rw [hoj] at this; exact Option.some.inj this
    subst hoe
    have back : ∀ i, reach ops 4 j i = true → listed.getD i false = true := fun i h => reach_listed hd 4 j i h fun o e ho he hb => by
      rw [hoj] at ho
      exact hall e (Option.some.inj ho ▸ he) hb
    have fwd : ∀ i, reach ops 4 i j = true → listed.getD i false = false := fun i h => by
      cases hl : listed.getD i false with
      | false => rfl
      | true => rw [← hunf, reach_listed hd 4 i j h fun o e ho he hb => hd i o e hl ho he hb]
    have apartness : ∀ (i : Nat) (ei : Ent), es[i]? = some ei → i ≠ j → (listed.getD i false = decide (i < j)) ∨ (ei.o.apart ops ej.o = true ∨ ej.o.apart ops ei.o = true) := by
      intro i ei hei hij
      rcases Nat.lt_or_gt_of_ne hij with hlt | hgt
      · rcases (chkR_spec hR).2 i j _ _ hlt (hes i ei hei) hoj with h | h
        · exact .inr (.inl h)
        · exact .inl (by rw [back i h]; simp [hlt])
      · rcases (chkR_spec hR).2 j i _ _ hgt hoj (hes i ei hei) with h | h
        · exact .inr (.inr h)
        · exact .inl (by rw [fwd i h]; simp; omega)
    have looksr : ∀ t ∈ ej.o.looksAt ops, r.get t = (stR N (es.take j) r0).get t := fun t ht => by
      rw [hreg, stR_appl N es 0 j r0 r0.get (fun _ => rfl) t]
      refine appl_congr t _ 0 _ _ _ _ rfl fun i u hi hu => ?_
      simp only [List.getElem?_map, Option.map_eq_some_iff] at hi
      obtain ⟨ei, hei, rfl⟩ := hi
      simp only [Nat.zero_add]
      by_cases hij : i = j
      · subst hij; rw [hunf]; simp
      · rcases apartness i ei hei hij with h | h | h
        · exact h
        · exact absurd ht ((Oper.apart_spec h).1 t hu.1)
        · exact absurd ht ((Oper.apart_spec h).2.2 t hu.1)
    have hwrd : ∀ (i : Nat) (e : Ent), es[i]? = some e → ∀ k ∈ e.wr.map (·.1), k ∈ e.rd := fun i e he k hk => by
      obtain ⟨⟨k', s⟩, hm, rfl⟩ := List.mem_map.1 hk
      exact (hloc i e he).1 k' s hm
    have looksh : ∀ k ∈ ej.rd, H.get k = (stH (es.take j) H0).get k := fun k hk => by
      rw [hheap, stH_appl es 0 j H0 H0.get (fun _ => rfl) k]
      refine appl_congr k _ 0 _ _ _ _ rfl fun i u hi hu => ?_
      simp only [List.getElem?_map, Option.map_eq_some_iff] at hi
      obtain ⟨ei, hei, rfl⟩ := hi
      simp only [Nat.zero_add]
      rcases Nat.lt_trichotomy i j with hlt | rfl | hgt
      · rcases hH i j ei ej hlt hei hej with h | h
        · rw [back i h]; simp [hlt]
        · exact absurd hk (h.1 k hu)
      · rw [hunf]; simp
      · rcases hH j i ej ei hgt hej hei with h | h
        · rw [fwd i h]; simp; omega
        · exact absurd hk (h.2 k hu)
    refine (hloc j ej hej).2 r H looksr looksh μ ρ w0 a w hrel _ _ j hoj fun c w' μ' hx' hW hv => ?_
    refine ih (listed.setIfInBounds j true) _ w' μ' (r.put N ej.o.dst ej.v) (H.upd ej.wr) (by simp [hs]) ?_ ?_ ?_ ?_ (hrel.put hx' hW hv) (hx.trans hx')
    · intro i o e hi ho he hb
      by_cases hij : j = i
      · subst hij
        rw [hoj] at ho
        exact getD_set_true (hall e (Option.some.inj ho ▸ he) hb)
      · rw [getD_set_ne false hij] at hi
        exact getD_set_true (hd i o e hi ho he hb)
    · have := countP_less (p := fun i => !listed.getD i false) (p' := fun i => !(listed.setIfInBounds j true).getD i false) (j := j) (by rw [hunf]; rfl)
        (by simp [hs, hjlt]) (fun i hi => by rw [getD_set_ne false (Ne.symm hi)]) (List.range ops.size) List.nodup_range (List.mem_range.2 hjlt)
      omega
    · intro t
      rw [get_put_on, show r.get = appl (es.map (·.U N)) 0 (fun i => listed.getD i false) r0.get from funext hreg]
      refine (appl_step (j := j) (by simp [hej]) (by simp [hs, hjlt]) (fun i hi => getD_set_ne false (Ne.symm hi)) (fun k j' u' hj' hlt hu hu' => ?_) t).symm
      simp only [List.getElem?_map, Option.map_eq_some_iff] at hj'
      obtain ⟨ei, hei, rfl⟩ := hj'
      rcases apartness j' ei hei (by omega) with h | h | h
      · rw [h]; simp; omega
      · exact absurd hu.1 ((Oper.apart_spec h).2.1 k hu'.1)
      · exact absurd hu'.1 ((Oper.apart_spec h).2.1 k hu.1)
    · intro k
      rw [get_upd_on, show H.get = appl (es.map (·.W)) 0 (fun i => listed.getD i false) H0.get from funext hheap]
      refine (appl_step (j := j) (by simp [hej]) (by simp [hs, hjlt]) (fun i hi => getD_set_ne false (Ne.symm hi)) (fun k j' u' hj' hlt hu hu' => ?_) k).symm
      simp only [List.getElem?_map, Option.map_eq_some_iff] at hj'
      obtain ⟨ei, hei, rfl⟩ := hj'
      rcases hH j j' ej ei hlt hej hei with h | h
      · exact fwd j' h
      · exact absurd (hwrd j' ei hei k hu') (h.1 k hu)

theorem aTab_sound {id : Nat} {r : Regs} {H : AH} {Q : AX → Regs → AH → Prop} (hc : chkR ops = true) (h : aTab X N ops lv ops.toList 0 r H [] (Q .normal)) : AWp X N (.region id ops true) r H Q := by
  intro μ ρ w0 a w hR
  obtain ⟨es, e1, e2, e3, e4⟩ := aTab_ents _ _ _ _ _ _ h
  have hlen : es.length = ops.size := by have := congrArg List.length e1; simpa using this
  have hes : ∀ (j : Nat) (e : Ent), es[j]? = some e → ops[j]? = some e.o := fun j e hj => by
    have : ops.toList[j]? = some e.o := by rw [← e1]; simp [hj]
    simpa using this
  have hb : Below w.heap.size w { w with drawn := w.drawn + 1 } := ⟨rfl, rfl, rfl, Nat.le_refl _, fun k hk => rfl⟩
  obtain ⟨hx, hW⟩ := hR.world.grow hb
  refine wp_region_any X.mixed ?_
  refine draw_any (μ0 := μ) (L0 := Live μ H) (ws := w) hlen hes e2 hc (fun i j ei ej hlt hi hj => ?_) (fun μ' a' w' hx' hR' => ⟨.normal, _, _, μ', rfl, e4, hx', hR'⟩) ops.size _ a _ μ r H (by simp) ?_ ?_ ?_ ?_
    ⟨hR.tsize, hR.defers, fun t => (hR.regs t).mono hx, hW⟩ hx
  · by_cases h1 : ei.rd = []
    · right
      have hwi : ei.wr = [] := by
        cases hw : ei.wr with
        | nil => rfl
        | cons y l => have := (e2 i ei hi).1 y.1 y.2 (by rw [hw]; simp); rw [h1] at this; cases this
      exact ⟨by simp [hwi], fun k _ => by simp [h1]⟩
    · by_cases h2 : ej.rd = []
      · right
        have hwj : ej.wr = [] := by
          cases hw : ej.wr with
          | nil => rfl
          | cons y l => have := (e2 j ej hj).1 y.1 y.2 (by rw [hw]; simp); rw [h2] at this; cases this
        exact ⟨fun k _ => by simp [h2], by simp [hwj]⟩
      · have := tabOf_two es 0 [] e3 i j ei ej hlt hi hj h1 h2
        simpa only [Nat.zero_add] using this
  · intro j o e hj
    simp [Array.getElem?_replicate] at hj
    split at hj <;> simp at hj
  · refine Nat.le_trans List.countP_le_length (by simp)
  · intro t
    rw [appl_none t _ 0 _ _ (fun j u _ _ => by simp [Array.getElem?_replicate]; split <;> simp)]
  · intro t
    rw [appl_none t _ 0 _ _ (fun j u _ _ => by simp [Array.getElem?_replicate]; split <;> simp)]
end
end Go.Proofs.YtndoembhbfiokaaGreatDoor.Am
/- Code: in a row, on a condition, blocks, loops. -/
set_option linter.unusedVariables false
set_option linter.unusedSimpArgs false
namespace Go.Proofs.YtndoembhbfiokaaGreatDoor.Am
open Go.RowKit

def seqQ (K : Regs → AH → Prop) (Q : AX → Regs → AH → Prop) : AX → Regs → AH → Prop
  | .normal => K
  | x => Q x
def blkQ (id : Nat) (Q : AX → Regs → AH → Prop) : AX → Regs → AH → Prop
  | .exit i => fun r H => if i = id then Q .normal r H else Q (.exit i) r H
  | x => Q x

def aC (X : Ctx) (N : Nat) (lv : List Tmp) : Code → Regs → AH → (AX → Regs → AH → Prop) → Prop
  | .skip, r, H, Q => Q .normal r H
  | .region _ ops false, r, H, Q => aOps X N ops lv ops.toList r H (Q .normal)
  | .region _ ops true, r, H, Q => chkR ops = true ∧ aTab X N ops lv ops.toList 0 r H [] (Q .normal)
  | .seq a b, r, H, Q => aC X N lv a r H (seqQ (fun r' H' => aC X N lv b r' H' Q) Q)
  | .cond c a b, r, H, Q => ∃ v, r.ev c = .bool v ∧ (v = true → aC X N lv a r H Q) ∧ (v = false → aC X N lv b r H Q)
  | .block id c, r, H, Q => aC X N lv c r H (blkQ id Q)
  | .exit id, r, H, Q => Q (.exit id) r H
  | .ret, r, H, Q => Q .ret r H
  | c, r, H, Q => AWp X N c r H Q

section
variable {X : Ctx} {N : Nat} {lv : List Tmp} {Q : AX → Regs → AH → Prop}

theorem CQ.from {μ μ' : Mu} {ρ : Nat → Value} {w0 w w' : World} {L : LV} {H' : AH} (hx : Ext μ L w μ' (Live μ' H') w') {e : Exit} {a : Act} {w'' : World}
    (h : CQ X N μ' ρ w0 w' (Live μ' H') Q e a w'') : CQ X N μ ρ w0 w L Q e a w'' := by
  obtain ⟨x, r, H, μ'', h1, h2, h3, h4⟩ := h
  exact ⟨x, r, H, μ'', h1, h2, hx.trans h3, h4⟩

theorem AWp.mono {c : Code} {r : Regs} {H : AH} {Q' : AX → Regs → AH → Prop} (h : AWp X N c r H Q) (hq : ∀ x r H, Q x r H → Q' x r H) : AWp X N c r H Q' :=
  fun μ ρ w0 a w hR => wp_mono (h μ ρ w0 a w hR) fun e a w ⟨x, r, H, μ', h1, h2, h3⟩ => ⟨x, r, H, μ', h1, hq _ _ _ h2, h3⟩

theorem AWp.seq {c d : Code} {r : Regs} {H : AH} (h : AWp X N c r H (seqQ (fun r H => AWp X N d r H Q) Q)) : AWp X N (.seq c d) r H Q := by
  intro μ ρ w0 a w hR
  refine wp_seq (wp_mono (h μ ρ w0 a w hR) fun e a' w' ⟨x, r', H', μ', h1, h2, h3, h4⟩ => ?_)
  cases x with
  | normal =>
    obtain rfl : Exit.normal = e := h1
    exact wp_mono (h2 μ' ρ w0 a' w' h4) fun e a'' w'' h => h.from h3
  | exit i =>
    obtain rfl : Exit.exit i = e := h1
    exact ⟨.exit i, r', H', μ', rfl, h2, h3, h4⟩
  | ret =>
    obtain rfl : Exit.ret = e := h1
    exact ⟨.ret, r', H', μ', rfl, h2, h3, h4⟩

theorem AWp.block {id : Nat} {c : Code} {r : Regs} {H : AH} (h : AWp X N c r H (blkQ id Q)) : AWp X N (.block id c) r H Q := by
  intro μ ρ w0 a w hR
  refine wp_block (wp_mono (h μ ρ w0 a w hR) fun e a' w' ⟨x, r', H', μ', h1, h2, h3, h4⟩ => ?_)
  cases x with
  | normal =>
    obtain rfl : Exit.normal = e := h1
    exact ⟨.normal, r', H', μ', rfl, h2, h3, h4⟩
  | exit i =>
    obtain rfl : Exit.exit i = e := h1
    simp only [blkQ] at h2
    simp only [Exit.inBlock]
    split
    · rename_i hi
      rw [if_pos hi] at h2
      exact ⟨.normal, r', H', μ', rfl, h2, h3, h4⟩
    · rename_i hi
      rw [if_neg hi] at h2
      exact ⟨.exit i, r', H', μ', rfl, h2, h3, h4⟩
  | ret =>
    obtain rfl : Exit.ret = e := h1
    exact ⟨.ret, r', H', μ', rfl, h2, h3, h4⟩

theorem aC_sound : ∀ (c : Code) (r : Regs) (H : AH) (Q : AX → Regs → AH → Prop), aC X N lv c r H Q → AWp X N c r H Q := by
  intro c
  induction c with
  | skip => intro r H Q h μ ρ w0 a w hR; exact wp_skip ⟨.normal, r, H, μ, rfl, h, Ext.refl _ _ _, hR⟩
  | exit id => intro r H Q h μ ρ w0 a w hR; exact wp_exit ⟨.exit id, r, H, μ, rfl, h, Ext.refl _ _ _, hR⟩
  | ret => intro r H Q h μ ρ w0 a w hR; exact wp_ret ⟨.ret, r, H, μ, rfl, h, Ext.refl _ _ _, hR⟩
  | region id ops draw =>
    intro r H Q h
    cases draw with
    | false => exact aOps_sound h
    | true => exact aTab_sound h.1 h.2
  | seq c d ihc ihd =>
    intro r H Q h
    refine AWp.seq ((ihc _ _ _ h).mono fun x r' H' hx => ?_)
    cases x with
    | normal => exact ihd _ _ _ hx
    | exit i => exact hx
    | ret => exact hx
  | cond c x y ihx ihy =>
    intro r H Q h μ ρ w0 a w hR
    obtain ⟨v, hv, ht, hf⟩ := h
    have hc := hR.ev c
    rw [hv] at hc
    generalize hcv : a.eval c = cv at hc
    cases hc
    refine wp_cond_split hcv (fun e => ?_) (fun e => ?_)
    · exact ihx _ _ _ (ht e) μ ρ w0 a w hR
    · exact ihy _ _ _ (hf e) μ ρ w0 a w hR
  | block id c ih => intro r H Q h; exact AWp.block (ih _ _ _ h)
  | _ => intro r H Q h; exact h

/-- To know less of the same state. -/
def Wk (X : Ctx) (N : Nat) (r : Regs) (H : AH) (r' : Regs) (H' : AH) : Prop :=
  ∀ μ ρ w0 a w, Rel X N μ ρ w0 r H a w → ∃ μ', Ext μ (Live μ H) w μ' (Live μ' H') w ∧ Rel X N μ' ρ w0 r' H' a w
theorem Wk.refl {r : Regs} {H : AH} : Wk X N r H r H := fun μ ρ w0 a w h => ⟨μ, Ext.refl _ _ _, h⟩
theorem Wk.trans {r r' r'' : Regs} {H H' H'' : AH} (h : Wk X N r H r' H') (k : Wk X N r' H' r'' H'') : Wk X N r H r'' H'' := fun μ ρ w0 a w hR => by
  obtain ⟨μ', h1, h2⟩ := h μ ρ w0 a w hR
  obtain ⟨μ'', h3, h4⟩ := k μ' ρ w0 a w h2
  exact ⟨μ'', h1.trans h3, h4⟩
theorem AWp.weak {c : Code} {r r' : Regs} {H H' : AH} (hw : Wk X N r H r' H') (h : AWp X N c r' H' Q) : AWp X N c r H Q := fun μ ρ w0 a w hR => by
  obtain ⟨μ', h1, h2⟩ := hw μ ρ w0 a w hR
  exact wp_mono (h μ' ρ w0 a w h2) fun e a w h => h.from h1

/-- A loop: states told by a ghost, whose measure falls. -/
theorem AWp.loop {S : Type} {c : Code} (I : S → Prop) (R : S → Regs) (HH : S → AH) (m : S → Nat) (s0 : S) {r : Regs} {H : AH} (hI : I s0) (h0 : Wk X N r H (R s0) (HH s0))
    (round : ∀ s, I s → AWp X N c (R s) (HH s) (seqQ (fun r' H' => ∃ s', I s' ∧ m s' < m s ∧ Wk X N r' H' (R s') (HH s')) Q)) : AWp X N (.loop c) r H Q := by
  intro μ ρ w0 a w hR
  have key : ∀ n, ∀ s, m s = n → I s → ∀ μ a w, Rel X N μ ρ w0 (R s) (HH s) a w → ∀ b k cs,
      ∃ e a' w', CQ X N μ ρ w0 w (Live μ (HH s)) Q e a' w' ∧ Arrives X.P (lone (b.at a (.code c :: .inLoop c :: k)) cs w) b k cs e a' w' := by
    intro n
    induction n using Nat.strongRecOn with
    | _ n ih =>
      intro s hs hI μ a w hR b k cs
      obtain ⟨e, a₁, w₁, hq, harr⟩ := round s hI μ ρ w0 a w hR b (.inLoop c :: k) cs
      obtain ⟨x, r', H', μ', h1, h2, h3, h4⟩ := hq
      cases x with
      | normal =>
        obtain rfl : Exit.normal = e := h1
        obtain ⟨s', hI', hlt, hwk⟩ := h2
        obtain ⟨μ'', h5, h6⟩ := hwk μ' ρ w0 a₁ w₁ h4
        obtain ⟨e₂, a₂, w₂, hq₂, harr₂⟩ := ih (m s') (hs ▸ hlt) s' rfl hI' μ'' a₁ w₁ h6 b k cs
        exact ⟨e₂, a₂, w₂, hq₂.from (h3.trans h5), .of_steps (Steps.trans harr (.one step_inLoop)) harr₂⟩
      | exit i =>
        obtain rfl : Exit.exit i = e := h1
        exact ⟨_, a₁, w₁, ⟨.exit i, r', H', μ', rfl, h2, h3, h4⟩, .pass (x := .inLoop c) rfl (fun _ _ => .inl (by simp [AX.to])) harr⟩
      | ret =>
        obtain rfl : Exit.ret = e := h1
        exact ⟨_, a₁, w₁, ⟨.ret, r', H', μ', rfl, h2, h3, h4⟩, .pass (x := .inLoop c) rfl (fun _ _ => .inl (by simp [AX.to])) harr⟩
  obtain ⟨μ', h1, h2⟩ := h0 μ ρ w0 a w hR
  intro b k cs
  obtain ⟨e, a', w', hq, harr⟩ := key _ s0 rfl hI μ' a w h2 b k cs
  exact ⟨e, a', w', hq.from h1, .of_steps (.one step_loop) harr⟩
end
end Go.Proofs.YtndoembhbfiokaaGreatDoor.Am
/- Leaving a function: what it made of its own is forgotten. -/
set_option linter.unusedVariables false
set_option linter.unusedSimpArgs false
namespace Go.Proofs.YtndoembhbfiokaaGreatDoor.Am
open Go.RowKit

/-- The identities that a value names satisfy p. -/
inductive AV.In (p : Nat → Prop) : AV → Prop
  | any : AV.In p .any
  | bool (b : Bool) : AV.In p (.bool b)
  | int (k : IntKind) (n : Int) : AV.In p (.int k n)
  | str (l : List UInt8) : AV.In p (.str l)
  | nilp : AV.In p .nilp
  | ptr (id ver i off : Nat) (h : p id) : AV.In p (.ptr id ver i off)
  | eptr (xs : List AV) (i off : Nat) (h : ∀ x ∈ xs, ∀ c ∈ x.cells, AV.In p c) : AV.In p (.eptr xs i off)
  | opq (k : Nat) : AV.In p (.opq k)
  | gptr (g : Nat) : AV.In p (.gptr g)
  | sl (id ver off len : Nat) (h : p id) : AV.In p (.sl id ver off len)
  | asl (id ver i off len : Nat) (h : p id) : AV.In p (.asl id ver i off len)
  | fsl (xs : List AV) (h : ∀ x ∈ xs, ∀ c ∈ x.cells, AV.In p c) : AV.In p (.fsl xs)
  | csl (xs : List AV) (h : ∀ x ∈ xs, ∀ c ∈ x.cells, AV.In p c) : AV.In p (.csl xs)
  | func (fn : Fn) (fs cs : List AV) (hf : ∀ x ∈ fs, AV.In p x) (hc : ∀ x ∈ cs, AV.In p x) : AV.In p (.func fn fs cs)
  | nilf : AV.In p .nilf
  | iface (t : TypeId) (v : AV) (h : AV.In p v) : AV.In p (.iface t v)
  | nili : AV.In p .nili
  | agg (cs : List AV) (h : ∀ x ∈ cs, AV.In p x) : AV.In p (.agg cs)
  | tup (cs : List AV) (h : ∀ x ∈ cs, AV.In p x) : AV.In p (.tup cs)
  | map (id : Nat) (h : p id) : AV.In p (.map id)

/-- Values that name no memory that is still written. -/
abbrev AV.Data (v : AV) : Prop := AV.In (fun _ => False) v
theorem AV.In.mono {p q : Nat → Prop} (hpq : ∀ i, p i → q i) {v : AV} (h : AV.In p v) : AV.In q v := by
  induction h with
  | any => exact .any
  | bool b => exact .bool b
  | int k n => exact .int k n
  | str l => exact .str l
  | nilp => exact .nilp
  | ptr id ver i off h => exact .ptr id ver i off (hpq _ h)
  | eptr xs i off h ih => exact .eptr xs i off ih
  | opq k => exact .opq k
  | gptr g => exact .gptr g
  | sl id ver off len h => exact .sl id ver off len (hpq _ h)
  | asl id ver i off len h => exact .asl id ver i off len (hpq _ h)
  | fsl xs h ih => exact .fsl xs ih
  | csl xs h ih => exact .csl xs ih
  | func fn fs cs hf hc ihf ihc => exact .func fn fs cs ihf ihc
  | nilf => exact .nilf
  | iface t v h ih => exact .iface t v ih
  | nili => exact .nili
  | agg cs h ih => exact .agg cs ih
  | tup cs h ih => exact .tup cs ih
  | map id h => exact .map id (hpq _ h)

/-- What stands for something names identities in use. -/
theorem VRel.in {μ : Mu} {ρ : Nat → Value} {L : LV} {w : World} {v : AV} {c : Value} (h : VRel μ ρ L w v c) {p : Nat → Prop} (hμ : ∀ i ver x, μ i ver = some x → p i) (hL : ∀ i, L.ids i → p i) : AV.In p v := by
  induction h with
  | any v => exact .any
  | bool b => exact .bool b
  | int k n => exact .int k n
  | str s => exact .str _
  | nilp => exact .nilp
  | ptr id ver i off b sz h => exact .ptr id ver i off (hμ _ _ _ h)
  | eptr xs i off b o sz f hLb hb hz hc hr ih =>
    refine .eptr xs i off fun x hx c hcx => ?_
    obtain ⟨j, hj, rfl⟩ := List.getElem_of_mem hx
    obtain ⟨q, hq, rfl⟩ := List.getElem_of_mem hcx
    exact ih j hj q hq
  | opq k => exact .opq k
  | gptr g => exact .gptr g
  | sl0 id ver off a hU => exact .sl id ver off 0 (hL _ hU)
  | sl id ver off len b sz cap e n h hlen hs hcap => exact .sl id ver off len (hμ _ _ _ h)
  | asl id ver i off len b sz cap h hlen hcap => exact .asl id ver i off len (hμ _ _ _ h)
  | fsl0 a cap => exact .fsl [] (by simp)
  | fsl xs b o sz cap f hLb hb hcap hz hc hr ih =>
    refine .fsl xs fun x hx c hcx => ?_
    obtain ⟨j, hj, rfl⟩ := List.getElem_of_mem hx
    obtain ⟨q, hq, rfl⟩ := List.getElem_of_mem hcx
    exact ih j hj q hq
  | csl0 a => exact .csl [] (by simp)
  | csl xs b o sz f hLb hb hz hc hr ih =>
    refine .csl xs fun x hx c hcx => ?_
    obtain ⟨j, hj, rfl⟩ := List.getElem_of_mem hx
    obtain ⟨q, hq, rfl⟩ := List.getElem_of_mem hcx
    exact ih j hj q hq
  | func fn fs cs F C hF hC hf hc ihf ihc =>
    refine .func fn fs cs (fun x hx => ?_) (fun x hx => ?_)
    · obtain ⟨j, hj, rfl⟩ := List.getElem_of_mem hx
      exact ihf j hj (by omega)
    · obtain ⟨j, hj, rfl⟩ := List.getElem_of_mem hx
      exact ihc j hj (by omega)
  | nilf => exact .nilf
  | iface t v c h ih => exact .iface t v ih
  | nili => exact .nili
  | agg cs C hC hc ih =>
    refine .agg cs fun x hx => ?_
    obtain ⟨j, hj, rfl⟩ := List.getElem_of_mem hx
    exact ih j hj (by omega)
  | tup cs C hC hc ih =>
    refine .tup cs fun x hx => ?_
    obtain ⟨j, hj, rfl⟩ := List.getElem_of_mem hx
    exact ih j hj (by omega)
  | map id b sz h => exact .map id (hμ _ _ _ h)

/-- A value goes back to where fewer identities are known, if it names only those. -/
theorem VRel.back {μ μ' : Mu} {ρ : Nat → Value} {L L' : LV} {w : World} {v : AV} {c : Value} (h : VRel μ ρ L w v c) {p : Nat → Prop}
    (hμ : ∀ i ver x, p i → μ i ver = some x → μ' i ver = some x) (hL : ∀ b, L' b → L b) (hU : ∀ i, p i → L'.ids i) (hp : AV.In p v) : VRel μ' ρ L' w v c := by
  induction h with
  | any v => exact .any v
  | bool b => exact .bool b
  | int k n => exact .int k n
  | str s => exact .str _
  | nilp => exact .nilp
  | ptr id ver i off b sz h => cases hp with | ptr _ _ _ _ hp => exact .ptr id ver i off b sz (hμ _ _ _ hp h)
  | eptr xs i off b o sz f hLb hb hz hc hr ih =>
    cases hp with
    | eptr _ _ _ hp => exact .eptr xs i off b o sz f (fun h => hLb (hL _ h)) hb hz hc (fun j hj q hq => ih j hj q hq (hp _ (List.getElem_mem hj) _ (List.getElem_mem hq)))
  | opq k => exact .opq k
  | gptr g => exact .gptr g
  | sl0 id ver off a _ => cases hp with | sl _ _ _ _ hp => exact .sl0 id ver off a (hU _ hp)
  | sl id ver off len b sz cap e n h hlen hs hcap => cases hp with | sl _ _ _ _ hp => exact .sl id ver off len b sz cap e n (hμ _ _ _ hp h) hlen hs hcap
  | asl id ver i off len b sz cap h hlen hcap => cases hp with | asl _ _ _ _ _ hp => exact .asl id ver i off len b sz cap (hμ _ _ _ hp h) hlen hcap
  | fsl0 a cap => exact .fsl0 a cap
  | fsl xs b o sz cap f hLb hb hcap hz hc hr ih =>
    cases hp with
    | fsl _ hp => exact .fsl xs b o sz cap f (fun h => hLb (hL _ h)) hb hcap hz hc (fun j hj q hq => ih j hj q hq (hp _ (List.getElem_mem hj) _ (List.getElem_mem hq)))
  | csl0 a => exact .csl0 a
  | csl xs b o sz f hLb hb hz hc hr ih =>
    cases hp with
    | csl _ hp => exact .csl xs b o sz f (fun h => hLb (hL _ h)) hb hz hc (fun j hj q hq => ih j hj q hq (hp _ (List.getElem_mem hj) _ (List.getElem_mem hq)))
  | func fn fs cs F C hF hC hf hc ihf ihc =>
    cases hp with
    | func _ _ _ h1 h2 => exact .func fn fs cs F C hF hC (fun j h h' => ihf j h h' (h1 _ (List.getElem_mem h))) (fun j h h' => ihc j h h' (h2 _ (List.getElem_mem h)))
  | nilf => exact .nilf
  | iface t v c h ih => cases hp with | iface _ _ hp => exact .iface t v c (ih hp)
  | nili => exact .nili
  | agg cs C hC hc ih => cases hp with | agg _ hp => exact .agg cs C hC (fun j h h' => ih j h h' (hp _ (List.getElem_mem h)))
  | tup cs C hC hc ih => cases hp with | tup _ hp => exact .tup cs C hC (fun j h h' => ih j h h' (hp _ (List.getElem_mem h)))
  | map id b sz h => cases hp with | map _ hp => exact .map id b sz (hμ _ _ _ hp h)

/-- What a slot's contents name. -/
def Slot.In (p : Nat → Prop) : Slot → Prop
  | .row xs _ _ => ∀ x ∈ xs, ∀ c ∈ x.cells, AV.In p c
  | .mapo es => ∀ e ∈ es, AV.In p e.1 ∧ AV.In p e.2
  | _ => True

theorem SlotOK.in {μ : Mu} {ρ : Nat → Value} {L : LV} {w0 w : World} {i : Nat} {s : Slot} (h : SlotOK μ ρ L w0 w i s) {p : Nat → Prop} (hμ : ∀ i ver x, μ i ver = some x → p i) (hL : ∀ i, L.ids i → p i) : s.In p := by
  cases s with
  | free => trivial
  | dead => trivial
  | row xs sz ver =>
    intro x hx c hc
    obtain ⟨j, hj, rfl⟩ := List.getElem_of_mem hx
    obtain ⟨q, hq, rfl⟩ := List.getElem_of_mem hc
    rcases h.2 with ⟨rfl, _⟩ | ⟨b, C, e, fz, _, _, _, _, _, _, h7⟩
    · simp at hj
    · obtain ⟨c, _, hr⟩ := h7 j hj q hq
      exact hr.in hμ hL
  | mapo es =>
    intro e he
    obtain ⟨j, hj, rfl⟩ := List.getElem_of_mem he
    obtain ⟨b, sz, E, clock, _, _, _, h4, h5⟩ := h
    exact ⟨(h5 j hj (by omega)).1.in hμ hL, (h5 j hj (by omega)).2.in hμ hL⟩

section
variable {X : Ctx}

theorem WRel.mu_used {μ : Mu} {ρ : Nat → Value} {w0 w : World} {H : AH} (h : WRel X μ ρ w0 H w) {i ver : Nat} {x : Nat × Nat} (hi : μ i ver = some x) : H.get i ≠ .free := by
  intro hf
  have := h.slot i
  rw [hf] at this
  rw [this ver] at hi
  cases hi

/-- From the heap at the entry to a heap after: what has come under new identities goes; what turns under old ones names old ones. -/
structure Keep (H0 H' H'' : AH) : Prop where
  free : ∀ i, H0.get i = .free → H''.get i = .free
  used : ∀ i, H0.get i ≠ .free → H''.get i = H'.get i ∧ H''.get i ≠ .free ∧ (H''.get i = H0.get i ∨ (H''.get i).In fun k => H0.get k ≠ .free)

/-- The end of a call, as the caller sees it. -/
theorem close {μ0 μ : Mu} {ρ : Nat → Value} {w0 wa w : World} {H0 H' H'' : AH} (hW0 : WRel X μ0 ρ w0 H0 wa) (hx : Ext μ0 (Live μ0 H0) wa μ (Live μ H') w) (hW : WRel X μ ρ w0 H' w) (hk : Keep H0 H' H'')
    {v : AV} {c : Value} (hv : VRel μ ρ (Live μ H') w v c) (hin : AV.In (fun k => H0.get k ≠ .free) v) :
    ∃ μ', Ext μ0 (Live μ0 H0) wa μ' (Live μ' H'') w ∧ WRel X μ' ρ w0 H'' w ∧ VRel μ' ρ (Live μ' H'') w v c := by
  classical
  let μ' : Mu := fun i ver => if H0.get i = .free then none else μ i ver
  have hμ' : ∀ i, H0.get i ≠ .free → ∀ ver, μ' i ver = μ i ver := fun i hi ver => by simp [μ', hi]
  have hμf : ∀ i, H0.get i = .free → ∀ ver, μ' i ver = none := fun i hi ver => by simp [μ', hi]
  have hblk : ∀ i b, blk μ' i (H''.get i) = some b → blk μ i (H'.get i) = some b ∧ H0.get i ≠ .free := fun i b hb => by
    by_cases hi : H0.get i = .free
    · rw [hk.free i hi] at hb; simp [blk] at hb
    · refine ⟨?_, hi⟩
      rw [← (hk.used i hi).1]
      revert hb
      cases H''.get i <;> simp [blk, hμ' i hi]
  have hsub : ∀ b, (Live μ' H'') b → (Live μ H') b := fun b ⟨i, hi⟩ => ⟨i, (hblk i b hi).1⟩
  have hids : ∀ i, H0.get i ≠ .free → (Live μ' H'').ids i := fun i hi => (hk.used i hi).2.1
  have hback : ∀ {v : AV} {c : Value}, VRel μ ρ (Live μ H') w v c → AV.In (fun k => H0.get k ≠ .free) v → VRel μ' ρ (Live μ' H'') w v c := fun hv hin =>
    hv.back (fun i ver x hp h => by rw [hμ' i hp]; exact h) hsub hids hin
  refine ⟨μ', ⟨fun i ver x h => ?_, hx.size, hx.same, hx.shape, fun b hb => hx.live b (hsub b hb), fun i hi => hids i hi⟩, ⟨hW.ok, hW.below, fun i => ?_, fun i j b hi hj => hW.inj i j b (hblk i b hi).1 (hblk j b hj).1⟩, hback hv hin⟩
  · have hi := hW0.mu_used h
    rw [hμ' i hi]
    exact hx.mu i ver x h
  · by_cases hi : H0.get i = .free
    · rw [hk.free i hi]
      exact fun ver => hμf i hi ver
    · obtain ⟨h1, _, h2⟩ := hk.used i hi
      have hin : (H''.get i).In fun k => H0.get k ≠ .free := by
        rcases h2 with h2 | h2
        · rw [h2]; exact (hW0.slot i).in (fun i ver x h => hW0.mu_used h) (fun i h => h)
        · exact h2
      have hs := hW.slot i
      rw [← h1] at hs
      revert hin hs
      cases H''.get i with
      | free => intro _ hs ver; rw [hμ' i hi]; exact hs ver
      | dead => intros; trivial
      | row xs sz ver =>
        intro hin hs
        refine ⟨fun v hv => by rw [hμ' i hi]; exact hs.1 v hv, ?_⟩
        rcases hs.2 with ⟨h0, h⟩ | ⟨b, C, e, fz, h1, h2, h3, h4, h5, h6, h7⟩
        · exact .inl ⟨h0, by rw [hμ' i hi]; exact h⟩
        · refine .inr ⟨b, C, e, fz, by rw [hμ' i hi]; exact h1, h2, h3, h4, h5, h6, fun j hj q hq => ?_⟩
          obtain ⟨c, hc, hr⟩ := h7 j hj q hq
          exact ⟨c, hc, hback hr (hin _ (List.getElem_mem hj) _ (List.getElem_mem hq))⟩
      | mapo es =>
        intro hin hs
        obtain ⟨b, sz, E, clock, h1, h2, h3, h4, h5⟩ := hs
        exact ⟨b, sz, E, clock, by rw [hμ' i hi]; exact h1, h2, h3, h4, fun j hj hj' => ⟨hback (h5 j hj hj').1 (hin _ (List.getElem_mem hj)).1, hback (h5 j hj hj').2 (hin _ (List.getElem_mem hj)).2⟩⟩

/-! ### A row that is written no more -/
inductive Frz (id ver : Nat) (zs : List AV) : AV → AV → Prop
  | refl (v : AV) : Frz id ver zs v v
  | any (v : AV) : Frz id ver zs v .any
  | sl (off len : Nat) (h : off + len ≤ zs.length) : Frz id ver zs (.sl id ver off len) (.fsl ((zs.drop off).take len))
  | ptr (i off : Nat) : Frz id ver zs (.ptr id ver i off) (.eptr zs i off)
  | iface (t : TypeId) (v v' : AV) (h : Frz id ver zs v v') : Frz id ver zs (.iface t v) (.iface t v')
  | agg (cs cs' : List AV) (hl : cs.length = cs'.length) (h : ∀ (j : Nat) (x y : AV), cs[j]? = some x → cs'[j]? = some y → Frz id ver zs x y) : Frz id ver zs (.agg cs) (.agg cs')
  | tup (cs cs' : List AV) (hl : cs.length = cs'.length) (h : ∀ (j : Nat) (x y : AV), cs[j]? = some x → cs'[j]? = some y → Frz id ver zs x y) : Frz id ver zs (.tup cs) (.tup cs')

theorem freeze {μ : Mu} {ρ : Nat → Value} {w0 w : World} {H : AH} (hW : WRel X μ ρ w0 H w) {id ver sz : Nat} {zs : List AV} (hH : H.get id = .row zs sz ver) :
    Ext μ (Live μ H) w μ (Live μ (H.put id .dead)) w ∧ WRel X μ ρ w0 (H.put id .dead) w ∧
    ∀ v v', Frz id ver zs v v' → ∀ c, VRel μ ρ (Live μ H) w v c → VRel μ ρ (Live μ (H.put id .dead)) w v' c := by
  have hsub : ∀ b, (Live μ (H.put id .dead)) b → (Live μ H) b ∧ ∀ sz', μ id ver ≠ some (b, sz') := fun b ⟨i, hi⟩ => by
    by_cases h : i = id
    · subst h; rw [AH.put_same] at hi; simp [blk] at hi
    · rw [AH.put_ne _ _ h] at hi
      refine ⟨⟨i, hi⟩, fun sz' hμ => h ?_⟩
      exact hW.inj i id b hi (by rw [hH]; simp [blk, hμ])
  have hx : Ext μ (Live μ H) w μ (Live μ (H.put id .dead)) w :=
    ⟨fun _ _ _ h => h, Nat.le_refl _, fun _ _ _ => rfl, fun _ _ => rfl, fun b hb => .inl (hsub b hb).1, put_ids (by simp)⟩
  refine ⟨hx, hW.put id _ hx hW.below (fun _ _ _ => rfl) (fun _ _ _ _ => rfl) trivial (fun b hb => by simp [blk] at hb), fun v v' hf => ?_⟩
  have hrow : ∀ b sz', μ id ver = some (b, sz') → ¬ (Live μ (H.put id .dead)) b ∧ b < w.heap.size ∧ ∃ f : Nat → Nat → Value, (∀ j (h : j < zs.length), (zs[j].cells).length = sz') ∧
      (∀ j, j < zs.length → ∀ q, q < sz' → w.cell? ⟨b, j * sz' + q, none⟩ = some (f j q)) ∧
      ∀ j (h : j < zs.length) q (hq : q < (zs[j].cells).length), VRel μ ρ (Live μ (H.put id .dead)) w ((zs[j].cells)[q]) (f j q) := fun b sz' hμ => by
    obtain ⟨rfl, hge, C, e, fz, hC, hfz, hCl, hEl, hEr⟩ := hW.row_at hH hμ
    refine ⟨fun hl => (hsub b hl).2 _ hμ, (Array.getElem?_eq_some_iff.1 hC).1, fun j q => (C[j * sz' + q]?).getD undef, hEl, fun j hj q hq => ?_, fun j hj q hq => ?_⟩
    · obtain ⟨c, hc, _⟩ := hEr j hj q (by rw [hEl j hj]; exact hq)
      simp [World.cell?, hC, hc]
    · obtain ⟨c, hc, hr⟩ := hEr j hj q hq
      simp only [hc, Option.getD_some]
      exact hr.mono hx
  induction hf with
  | refl v => exact fun c hc => hc.mono hx
  | any v => exact fun c hc => .any c
  | sl off len hle =>
    intro c hc
    cases hc with
    | sl0 _ _ _ a hU => simpa using VRel.fsl0 a 0
    | sl _ _ _ _ b sz' cap e n hμ hlen hs hcap =>
      obtain ⟨h1, h2, f, hz, hcell, hr⟩ := hrow b sz' hμ
      have hlen' : ((zs.drop off).take len).length = len := by simp; omega
      have := VRel.fsl (μ := μ) (ρ := ρ) (L := Live μ (H.put id .dead)) (w := w) ((zs.drop off).take len) b (off * sz') sz' cap (fun j q => f (off + j) q) h1 h2 (by omega)
        (fun j hj => by simp only [List.getElem_take, List.getElem_drop]; exact hz _ _)
        (fun j hj q hq => by
          have := hcell (off + j) (by omega) q hq
          rw [Nat.add_mul] at this
          exact this)
        (fun j hj q hq => by
          simp only [List.getElem_take, List.getElem_drop] at hq ⊢
          exact hr _ _ q hq)
      rw [hlen'] at this
      exact this
  | ptr i off =>
    intro c hc
    cases hc with
    | ptr _ _ _ _ b sz' hμ =>
      obtain ⟨h1, h2, f, hz, hcell, hr⟩ := hrow b sz' hμ
      have := VRel.eptr (μ := μ) (ρ := ρ) (L := Live μ (H.put id .dead)) (w := w) zs i off b 0 sz' f h1 h2 hz (fun j hj q hq => by rw [Nat.zero_add]; exact hcell j hj q hq) hr
      rw [Nat.zero_add] at this
      exact this
  | iface t v v' h ih =>
    intro c hc
    cases hc with
    | iface _ _ c hc => exact .iface t v' c (ih c hc)
  | agg cs cs' hl h ih =>
    intro c hc
    cases hc with
    | agg _ C hC hc => exact .agg cs' C (by omega) (fun j h1 h2 => ih j _ _ (List.getElem?_eq_getElem (by omega)) (List.getElem?_eq_getElem h1) _ (hc j (by omega) h2))
  | tup cs cs' hl h ih =>
    intro c hc
    cases hc with
    | tup _ C hC hc => exact .tup cs' C (by omega) (fun j h1 h2 => ih j _ _ (List.getElem?_eq_getElem (by omega)) (List.getElem?_eq_getElem h1) _ (hc j (by omega) h2))
end
end Go.Proofs.YtndoembhbfiokaaGreatDoor.Am
/- A function's contract from its body. -/
set_option linter.unusedVariables false
set_option linter.unusedSimpArgs false
namespace Go.Proofs.YtndoembhbfiokaaGreatDoor.Am
open Go.RowKit

theorem AH.ext' {H K : AH} (h1 : H.nx = K.nx) (h2 : ∀ i, H.get i = K.get i) : H = K := by
  obtain ⟨n, g, w⟩ := H
  obtain ⟨n', g', w'⟩ := K
  obtain rfl : n = n' := h1
  obtain rfl : g = g' := funext h2
  rfl
theorem AH.get_put (H : AH) (i j : Nat) (s : Slot) : (H.put i s).get j = if j = i then s else H.get j := rfl
theorem AH.nx_put (H : AH) (i : Nat) (s : Slot) : (H.put i s).nx = if i < H.nx then H.nx else i + 1 := rfl
theorem AH.put_put (H : AH) (i : Nat) (s s' : Slot) : (H.put i s).put i s' = H.put i s' := by
  refine AH.ext' ?_ fun j => ?_
  · simp only [AH.nx_put]
    by_cases h : i < H.nx
    · simp [h]
    · simp [h]
  · simp only [AH.get_put]; split <;> rfl
theorem AH.upd_cons (H : AH) (i : Nat) (s : Slot) (l : List (Nat × Slot)) : H.upd ((i, s) :: l) = (H.put i s).upd l := rfl

def entryR : Nat → List AV → Regs
  | _, [] => []
  | i, v :: vs => (i, v) :: entryR (i + 1) vs
def aRes (X : Ctx) : List ResultVar → Regs → AH → (List AV → Prop) → Prop
  | [], _, _, K => K []
  | .tmp t :: rs, r, H, K => aRes X rs r H fun vs => K (r.get t :: vs)
  | .cell a t :: rs, r, H, K => aLoad X t (r.get a) H fun v _ _ => aRes X rs r H fun vs => K (v :: vs)
def retV : List AV → AV
  | [v] => v
  | vs => .tup vs

/-- How a call ends: what the caller is told. -/
def Leave (X : Ctx) (H0 : AH) (v : AV) (H' : AH) (Q : AV → AH → Prop) : Prop :=
  ∀ μ0 ρ w0 wa μ w c, WRel X μ0 ρ w0 H0 wa → Ext μ0 (Live μ0 H0) wa μ (Live μ H') w → WRel X μ ρ w0 H' w → VRel μ ρ (Live μ H') w v c →
    ∃ v' H'' μ', Q v' H'' ∧ Ext μ0 (Live μ0 H0) wa μ' (Live μ' H'') w ∧ WRel X μ' ρ w0 H'' w ∧ VRel μ' ρ (Live μ' H'') w v' c

section
variable {X : Ctx} {H0 H' : AH} {v : AV} {Q : AV → AH → Prop}
theorem Leave.stay (h : Q v H') : Leave X H0 v H' Q := fun μ0 ρ w0 wa μ w c _ hx hW hv => ⟨v, H', μ, h, hx, hW, hv⟩
theorem Leave.frz {id ver sz : Nat} {zs : List AV} {v' : AV} (hH : H'.get id = .row zs sz ver) (hf : Frz id ver zs v v') (h : Leave X H0 v' (H'.put id .dead) Q) : Leave X H0 v H' Q :=
  fun μ0 ρ w0 wa μ w c hW0 hx hW hv => by
    obtain ⟨h1, h2, h3⟩ := freeze hW hH
    exact h μ0 ρ w0 wa μ w c hW0 (hx.trans h1) h2 (h3 _ _ hf _ hv)
theorem Leave.keep {H'' : AH} (hk : Keep H0 H' H'') (hin : AV.In (fun k => H0.get k ≠ .free) v) (h : Q v H'') : Leave X H0 v H' Q :=
  fun μ0 ρ w0 wa μ w c hW0 hx hW hv => by
    obtain ⟨μ', h1, h2, h3⟩ := close hW0 hx hW hk hv hin
    exact ⟨v, H'', μ', h, h1, h2, h3⟩
theorem Leave.data (hk : ∀ i, H0.get i ≠ .free → H'.get i = H0.get i) (hd : v.Data) (h : Q v H0) : Leave X H0 v H' Q :=
  Leave.keep ⟨fun _ h => h, fun i hi => ⟨(hk i hi).symm, hi, .inl rfl⟩⟩ (hd.mono fun _ h => h.elim) h
theorem Leave.le {v' : AV} (hle : ∀ μ ρ L w c, VRel μ ρ L w v c → VRel μ ρ L w v' c) (h : Leave X H0 v' H' Q) : Leave X H0 v H' Q :=
  fun μ0 ρ w0 wa μ w c hW0 hx hW hv => h μ0 ρ w0 wa μ w c hW0 hx hW (hle _ _ _ _ _ hv)

theorem aLoad_run {N : Nat} {t : TypeId} {p : AV} {H : AH} {K : AV → Prop} (h : aLoad X t p H fun v _ _ => K v) {μ : Mu} {ρ : Nat → Value} {w0 w : World} (hW : WRel X μ ρ w0 H w) {cp : Value} (hp : VRel μ ρ (Live μ H) w p cp) :
    ∃ v c, K v ∧ (do loadVar t (← asAddr cp)).run X.P w = .ok c w ∧ VRel μ ρ (Live μ H) w v c := by
  unfold aLoad at h
  split at h
  · rename_i xs i off
    obtain ⟨y, hy, h⟩ := h
    obtain ⟨v, hK, hrun⟩ := loadX_run h
    obtain ⟨b, o', rfl, hcs⟩ := hp.eptr_at
    obtain ⟨c, h1, h2⟩ := hrun _ _ _ w b o' (hcs y hy)
    exact ⟨v, c, hK, by simp [asAddr, h1], h2⟩
  · rename_i id ver i off
    obtain ⟨xs, sz, y, hH, hy, h⟩ := h
    obtain ⟨v, hK, hrun⟩ := loadX_run h
    cases hp with
    | ptr _ _ _ _ b sz' hμ =>
      obtain ⟨rfl, _⟩ := hW.row_at hH hμ
      obtain ⟨c, h1, h2⟩ := hrun _ _ _ w b _ (hW.row_cells hH hμ i y hy)
      exact ⟨v, c, hK, by simp [asAddr, h1], h2⟩
  · rename_i g
    obtain ⟨v, d, hΓ, hd, ha, hK⟩ := h
    obtain ⟨c, hc, _, hrel⟩ := X.okΓ ρ w0 hW.ok g v hΓ
    have hc' : w.cell? ⟨g, 0, none⟩ = some c := by rw [hW.below.cell (World.block_lt_of_cell? w0 _ hc)]; exact hc
    cases hp with
    | gptr => exact ⟨v, c, hK, by simp [asAddr, run_load_one (v := .any) hd ha hc'], hrel _ _ _⟩
  · exact h.elim

def resOne (tmps : Array Value) : ResultVar → Go.Sem Value
  | .tmp t => pure (tmps.getD t undef)
  | .cell a t => do loadVar t (← asAddr (tmps.getD a undef))

theorem aRes_run {N : Nat} {r : Regs} {H : AH} {μ : Mu} {ρ : Nat → Value} {w0 w : World} {a : Act} (hR : Rel X N μ ρ w0 r H a w) : ∀ (rs : List ResultVar) (K : List AV → Prop), aRes X rs r H K →
    ∃ (vs : List AV) (cs : List Value), K vs ∧ (rs.mapM (resOne a.tmps)).run X.P w = .ok cs w ∧ CRel μ ρ (Live μ H) w vs cs.toArray
  | [], K, h => ⟨[], [], h, rfl, rfl, fun j v hv => by simp at hv⟩
  | .tmp t :: rs, K, h => by
    obtain ⟨vs, cs, h1, h2, h3, h4⟩ := aRes_run hR rs _ h
    refine ⟨r.get t :: vs, a.tmps.getD t undef :: cs, h1, ?_, by simpa using h3, fun j v hv => ?_⟩
    · rw [List.mapM_cons]
      have : (resOne a.tmps (.tmp t)).run X.P w = .ok (a.tmps.getD t undef) w := rfl
      simp only [Sem.run_bind, this, Result.andThen_ok, h2, Sem.run_pure]
    · cases j with
      | zero =>
        simp only [List.getElem?_cons_zero, Option.some.injEq] at hv
        subst hv
        exact ⟨_, by simp, hR.regs t⟩
      | succ j =>
        obtain ⟨c, hc, hr⟩ := h4 j v (by simpa using hv)
        exact ⟨c, by simpa using hc, hr⟩
  | .cell p t :: rs, K, h => by
    obtain ⟨v0, c0, hK, hrun, hv0⟩ := aLoad_run (N := N) h hR.world (hR.regs p)
    obtain ⟨vs, cs, h1, h2, h3, h4⟩ := aRes_run hR rs _ hK
    refine ⟨v0 :: vs, c0 :: cs, h1, ?_, by simpa using h3, fun j v hv => ?_⟩
    · rw [List.mapM_cons]
      have : (resOne a.tmps (.cell p t)).run X.P w = .ok c0 w := hrun
      simp only [Sem.run_bind, this, Result.andThen_ok, h2, Sem.run_pure]
    · cases j with
      | zero =>
        simp only [List.getElem?_cons_zero, Option.some.injEq] at hv
        subst hv
        exact ⟨_, by simp, hv0⟩
      | succ j =>
        obtain ⟨c, hc, hr⟩ := h4 j v (by simpa using hv)
        exact ⟨c, by simpa using hc, hr⟩

theorem results_eq (fn : Func) (tmps : Array Value) : results fn tmps = (do
    let vs ← fn.results.mapM (resOne tmps)
    pure (if h : vs.size = 1 then vs[0] else .tuple vs)) := by
  unfold results
  congr 1

theorem results_run {N : Nat} {fn : Func} {r : Regs} {H : AH} {μ : Mu} {ρ : Nat → Value} {w0 w : World} {a : Act} (hR : Rel X N μ ρ w0 r H a w) {K : List AV → Prop} (h : aRes X fn.results.toList r H K) :
    ∃ vs c, K vs ∧ (results fn a.tmps).run X.P w = .ok c w ∧ VRel μ ρ (Live μ H) w (retV vs) c := by
  obtain ⟨vs, cs, h1, h2, h3, h4⟩ := aRes_run hR _ _ h
  refine ⟨vs, if h : cs.toArray.size = 1 then cs.toArray[0] else .tuple cs.toArray, h1, ?_, ?_⟩
  · rw [results_eq, Array.mapM_eq_mapM_toList]
    have e : ∀ x : Go.Sem (List Value), (List.toArray <$> x) = x >>= fun l => pure l.toArray := fun x => rfl
    simp only [e, Sem.run_bind, h2, Result.andThen_ok, Sem.run_pure]
  · have hl : cs.length = vs.length := by simpa using h3
    by_cases h5 : cs.length = 1
    · obtain ⟨v, rfl⟩ := List.length_eq_one_iff.1 (hl ▸ h5)
      obtain ⟨c, rfl⟩ := List.length_eq_one_iff.1 h5
      obtain ⟨c', hc', hr⟩ := h4 0 v (by simp)
      simp at hc'
      subst hc'
      simpa [retV] using hr
    · have : retV vs = .tup vs := by
        unfold retV; split
        · simp at hl; exact absurd hl h5
        · rfl
      rw [this, dif_neg (by simpa using h5)]
      refine .tup vs cs.toArray (by simpa using hl) fun j hj hj' => ?_
      obtain ⟨c, hc, hr⟩ := h4 j _ (List.getElem?_eq_getElem hj)
      rw [Array.getElem?_eq_getElem hj'] at hc
      rw [Option.some.inj hc]; exact hr

theorem entryR_get {μ : Mu} {ρ : Nat → Value} {L : LV} {w : World} : ∀ (vs : List AV) (i : Nat) (g : Nat → Value), (∀ (j : Nat) (v : AV), vs[j]? = some v → VRel μ ρ L w v (g (i + j))) → ∀ t, VRel μ ρ L w ((entryR i vs).get t) (g t)
  | [], i, g, _, t => .any _
  | v :: vs, i, g, h, t => by
    simp only [entryR, Regs.get]
    split
    · rename_i ht
      subst ht
      simpa using h 0 v (by simp)
    · exact entryR_get vs (i + 1) g (fun j u hu => by rw [show i + 1 + j = i + (j + 1) by omega]; exact h (j + 1) u (by simpa using hu)) t

/-- A function's contract. -/
theorem acalls {f : FuncId} {fn : Func} {N : Nat} {rs : List ResultVar} {c : Code} {args : List AV} {H : AH} (hf : X.P.funcs[f]? = some fn) (hb : fn.body = some c) (hN : fn.ntmps = N) (hrs : fn.results.toList = rs)
    (hn : fn.name ≠ "runtime.NumGoroutine") (hl : args.length ≤ N) (h : AWp X N c (entryR 0 args) H fun x r H' => (∀ i, x ≠ .exit i) ∧ aRes X rs r H' fun vs => Leave X H (retV vs) H' Q) : ACalls X f args H Q := by
  subst hN hrs
  refine ⟨by simp [callable, hf, hb, hn], fun μ ρ w0 w A hW hA => calls_of_wp hf hb ?_⟩
  have hR : Rel X fn.ntmps μ ρ w0 (entryR 0 args) H { tmps := A ++ Array.replicate (fn.ntmps - A.size) undef, defers := [] } w := by
    refine ⟨by simp [hA.1]; omega, rfl, entryR_get args 0 _ (fun j v hv => ?_), hW⟩
    obtain ⟨c, hc, hr⟩ := hA.2 j v hv
    have hj := (Array.getElem?_eq_some_iff.1 hc).1
    have : (A ++ Array.replicate (fn.ntmps - A.size) undef)[j]? = some c := by rw [Array.getElem?_append_left hj]; exact hc
    simp only [Nat.zero_add, Array.getD_eq_getD_getElem?, this, Option.getD_some]
    exact hr
  refine wp_mono (h μ ρ w0 _ w hR) fun e a' w' ⟨x, r', H', μ', h1, ⟨h2, h3⟩, h4, h5⟩ => ?_
  obtain ⟨vs, c, hL, hrun, hv⟩ := results_run h5 h3
  obtain ⟨v', H'', μ'', hQ, hx, hW'', hv'⟩ := hL μ ρ w0 w μ' w' c hW h4 h5.world hv
  cases x with
  | normal => obtain rfl : Exit.normal = e := h1; exact ⟨h5.defers, c, hrun, c, v', H'', μ'', rfl, hQ, hx, hW'', hv'⟩
  | exit i => exact absurd rfl (h2 i)
  | ret => obtain rfl : Exit.ret = e := h1; exact ⟨h5.defers, c, hrun, c, v', H'', μ'', rfl, hQ, hx, hW'', hv'⟩
end
end Go.Proofs.YtndoembhbfiokaaGreatDoor.Am
/- To know less: at a loop's head, at a join. -/
set_option linter.unusedVariables false
set_option linter.unusedSimpArgs false
namespace Go.Proofs.YtndoembhbfiokaaGreatDoor.Am
open Go.RowKit

/-- One value says no more than another. -/
def Le (v v' : AV) : Prop := ∀ μ ρ (L : LV) w c, VRel μ ρ L w v c → VRel μ ρ L w v' c
theorem Le.refl (v : AV) : Le v v := fun _ _ _ _ _ h => h
theorem Le.any (v : AV) : Le v .any := fun _ _ _ _ c _ => .any c
theorem Le.eq {v v' : AV} (h : v = v') : Le v v' := h ▸ Le.refl v
theorem Le.csl (xs : List AV) : Le (.csl xs) (.fsl xs) := fun _ _ _ _ _ h => h.csl_fsl
theorem Le.trans {u v t : AV} (h : Le u v) (k : Le v t) : Le u t := fun μ ρ L w c hc => k _ _ _ _ _ (h _ _ _ _ _ hc)
theorem Le.iface {t : TypeId} {v v' : AV} (h : Le v v') : Le (.iface t v) (.iface t v') := fun μ ρ L w c hc => by
  cases hc with
  | iface _ _ c hc => exact .iface t v' c (h _ _ _ _ _ hc)
theorem Le.agg {cs cs' : List AV} (hl : cs.length = cs'.length) (h : ∀ (j : Nat) (x y : AV), cs[j]? = some x → cs'[j]? = some y → Le x y) : Le (.agg cs) (.agg cs') := fun μ ρ L w c hc => by
  cases hc with
  | agg _ C hC hc => exact .agg cs' C (by omega) (fun j h1 h2 => h j _ _ (List.getElem?_eq_getElem (by omega)) (List.getElem?_eq_getElem h1) _ _ _ _ _ (hc j (by omega) h2))
theorem Le.tup {cs cs' : List AV} (hl : cs.length = cs'.length) (h : ∀ (j : Nat) (x y : AV), cs[j]? = some x → cs'[j]? = some y → Le x y) : Le (.tup cs) (.tup cs') := fun μ ρ L w c hc => by
  cases hc with
  | tup _ C hC hc => exact .tup cs' C (by omega) (fun j h1 h2 => h j _ _ (List.getElem?_eq_getElem (by omega)) (List.getElem?_eq_getElem h1) _ _ _ _ _ (hc j (by omega) h2))

theorem Regs.get_all {A : AV → AV → Prop} (hany : ∀ v, A v .any) (f : Nat → AV) : ∀ (r' : Regs), (∀ p ∈ r', A (f p.1) p.2) → ∀ t, A (f t) (r'.get t)
  | [], _, t => hany _
  | (k, v) :: r', h, t => by
    simp only [Regs.get]
    split
    · rename_i ht; subst ht; exact h _ List.mem_cons_self
    · exact Regs.get_all hany f r' (fun p hp => h p (List.mem_cons_of_mem _ hp)) t

section
variable {X : Ctx} {N : Nat} {r r' : Regs} {H : AH}
/-- The registers, one by one; the others are forgotten. -/
theorem Wk.regs (h : ∀ p ∈ r', Le (r.get p.1) p.2) : Wk X N r H r' H := fun μ ρ w0 a w hR =>
  ⟨μ, Ext.refl _ _ _, hR.tsize, hR.defers, fun t => Regs.get_all (A := Le) Le.any r.get r' h t _ _ _ _ _ (hR.regs t), hR.world⟩

theorem Wk.frz {id ver sz : Nat} {zs : List AV} (hH : H.get id = .row zs sz ver) (h : ∀ p ∈ r', Frz id ver zs (r.get p.1) p.2) : Wk X N r H r' (H.put id .dead) := fun μ ρ w0 a w hR => by
  obtain ⟨h1, h2, h3⟩ := freeze hR.world hH
  exact ⟨μ, h1, hR.tsize, hR.defers, fun t => h3 _ _ (Regs.get_all (A := Frz id ver zs) .any r.get r' h t) _ (hR.regs t), h2⟩

/-- A slot is forgotten. -/
theorem Wk.drop (id : Nat) : Wk X N r H r (H.put id .dead) := fun μ ρ w0 a w hR => by
  have hsub : ∀ b, (Live μ (H.put id .dead)) b → (Live μ H) b := fun b ⟨i, hi⟩ => by
    by_cases h : i = id
    · subst h; rw [AH.put_same] at hi; simp [blk] at hi
    · rw [AH.put_ne _ _ h] at hi; exact ⟨i, hi⟩
  have hx : Ext μ (Live μ H) w μ (Live μ (H.put id .dead)) w :=
    ⟨fun _ _ _ h => h, Nat.le_refl _, fun _ _ _ => rfl, fun _ _ => rfl, fun b hb => .inl (hsub b hb), put_ids (by simp)⟩
  exact ⟨μ, hx, hR.tsize, hR.defers, fun t => (hR.regs t).mono hx, hR.world.put id _ hx hR.world.below (fun _ _ _ => rfl) (fun _ _ _ _ => rfl) trivial (fun b hb => by simp [blk] at hb)⟩

/-- Nothing yet becomes a row that is still to be written: the registers that hold it follow. -/
def Mat (id : Nat) (v v' : AV) : Prop := v' = v ∨ v' = .any ∨ (v = .csl [] ∧ v' = .sl id 0 0 0)
theorem Wk.mat {id : Nat} (sz : Nat) (hid : H.get id = .free) (h : ∀ p ∈ r', Mat id (r.get p.1) p.2) : Wk X N r H r' (H.put id (.row [] sz 0)) := fun μ ρ w0 a w hR => by
  have hs := hR.world.slot id
  rw [hid] at hs
  obtain ⟨hx, hW⟩ := voidRow hR.world (id := id) (ver := 0) (sz := sz) (fun v _ => hs v) (by simp [hid, blk])
  refine ⟨μ, hx, hR.tsize, hR.defers, fun t => ?_, hW⟩
  rcases Regs.get_all (A := Mat id) (fun v => .inr (.inl rfl)) r.get r' h t with h | h | ⟨h1, h2⟩
  · rw [h]; exact (hR.regs t).mono hx
  · rw [h]; exact .any _
  · have hv := hR.regs t
    rw [h1] at hv
    rw [h2]
    have hU : (Live μ (H.put id (.row [] sz 0))).ids id := by show AH.get _ _ ≠ .free; simp [AH.put_same]
    generalize a.tmps.getD t undef = c at hv
    cases hv with
    | csl0 ad => exact .sl0 id 0 0 ad hU
    | csl _ b o sz f => exact .sl0 id 0 0 _ hU

theorem Wk.heap {H' : AH} (h : H' = H) (k : Wk X N r H r' H) : Wk X N r H r' H' := h ▸ k
end
end Go.Proofs.YtndoembhbfiokaaGreatDoor.Am
/- Equations by which the simplifier walks: every step looks at its own operands first, and at what follows only when it has gone. -/
set_option linter.unusedVariables false
set_option linter.unusedSimpArgs false
namespace Go.Proofs.YtndoembhbfiokaaGreatDoor.Am
open Go.RowKit

/-- What the simplifier does not look into. -/
class Hid (A : Type) where
  out : A

/-- Something that is there; a condition; a row. -/
def aSome {A : Type} (o : Option A) (K : A → Prop) : Prop := ∃ x, o = some x ∧ K x
def aIf (p K : Prop) : Prop := p ∧ K
def aRow (s : Slot) (ver : Nat) (K : List AV → Nat → Prop) : Prop := ∃ xs sz, s = .row xs sz ver ∧ K xs sz
def aCond (v : AV) (A B : Prop) : Prop := ∃ b, v = .bool b ∧ (b = true → A) ∧ (b = false → B)
def aGuard (v : AV) (want : Bool) (A B : Prop) : Prop := (∃ b, v = .bool b ∧ (b = want → A) ∧ (b ≠ want → B)) ∨ (v = .tup [] ∧ B)

def hSome {A : Type} (o : Option A) [K : Hid (A → Prop)] : Prop := aSome o K.out
@[simp ↓] theorem aSome_hide {A : Type} (o : Option A) (K : A → Prop) : aSome o K = hSome o (K := ⟨K⟩) := (rfl)
def hIf (p : Prop) [K : Hid (Prop)] : Prop := aIf p K.out
@[simp ↓] theorem aIf_hide (p : Prop) (K : Prop) : aIf p K = hIf p (K := ⟨K⟩) := (rfl)
def hRow (s : Slot) (ver : Nat) [K : Hid (List AV → Nat → Prop)] : Prop := aRow s ver K.out
@[simp ↓] theorem aRow_hide (s : Slot) (ver : Nat) (K : List AV → Nat → Prop) : aRow s ver K = hRow s ver (K := ⟨K⟩) := (rfl)
def hCond (v : AV) [A : Hid (Prop)] [B : Hid (Prop)] : Prop := aCond v A.out B.out
@[simp ↓] theorem aCond_hide (v : AV) (A : Prop) (B : Prop) : aCond v A B = hCond v (A := ⟨A⟩) (B := ⟨B⟩) := (rfl)
def hGuard (v : AV) (w : Bool) [A : Hid (Prop)] [B : Hid (Prop)] : Prop := aGuard v w A.out B.out
@[simp ↓] theorem aGuard_hide (v : AV) (w : Bool) (A : Prop) (B : Prop) : aGuard v w A B = hGuard v w (A := ⟨A⟩) (B := ⟨B⟩) := (rfl)
theorem aSome_some' {A : Type} (x : A) (K : A → Prop) : aSome (some x) K = K x := propext ⟨fun ⟨y, h, k⟩ => by cases h; exact k, fun h => ⟨_, rfl, h⟩⟩
@[simp] theorem aSome_some {A : Type} (x : A) (K : A → Prop) : hSome (some x) (K := ⟨K⟩) = K x := aSome_some' ..
theorem aIf_true' (K : Prop) : aIf True K = K := propext ⟨fun h => h.2, fun h => ⟨trivial, h⟩⟩
@[simp] theorem aIf_true (K : Prop) : hIf True (K := ⟨K⟩) = K := aIf_true' ..
theorem aRow_row' (xs : List AV) (sz ver : Nat) (K : List AV → Nat → Prop) : aRow (.row xs sz ver) ver K = K xs sz := by
  apply propext
  constructor
  · rintro ⟨ys, n, h, hK⟩; cases h; exact hK
  · intro h; exact ⟨_, _, rfl, h⟩
@[simp] theorem aRow_row (xs : List AV) (sz ver : Nat) (K : List AV → Nat → Prop) : hRow (.row xs sz ver) ver (K := ⟨K⟩) = K xs sz := aRow_row' ..
theorem aCond_true' (A B : Prop) : aCond (.bool true) A B = A := by
  apply propext; constructor
  · rintro ⟨b, h, h1, h2⟩; cases h; exact h1 rfl
  · intro h; exact ⟨true, rfl, fun _ => h, fun h => (by cases h)⟩
@[simp] theorem aCond_true (A B : Prop) : hCond (.bool true) (A := ⟨A⟩) (B := ⟨B⟩) = A := aCond_true' ..
theorem aCond_false' (A B : Prop) : aCond (.bool false) A B = B := by
  apply propext; constructor
  · rintro ⟨b, h, h1, h2⟩; cases h; exact h2 rfl
  · intro h; exact ⟨false, rfl, fun h => (by cases h), fun _ => h⟩
@[simp] theorem aCond_false (A B : Prop) : hCond (.bool false) (A := ⟨A⟩) (B := ⟨B⟩) = B := aCond_false' ..
theorem aIf_mk {p K : Prop} (h : p) (k : K) : aIf p K := ⟨h, k⟩
theorem aSome_mk {A : Type} {o : Option A} {x : A} {K : A → Prop} (h : o = some x) (k : K x) : aSome o K := ⟨x, h, k⟩
theorem aCond_mk {b : Bool} {A B : Prop} (h1 : b = true → A) (h2 : b = false → B) : aCond (.bool b) A B := ⟨b, rfl, h1, h2⟩
theorem aCond_dec {p : Prop} [Decidable p] {A B : Prop} (h1 : p → A) (h2 : ¬ p → B) : aCond (.bool (decide p)) A B :=
  ⟨_, rfl, fun h => h1 (by simpa using h), fun h => h2 (by simpa using h)⟩
theorem aGuard_mk {b w : Bool} {A B : Prop} (h1 : b = w → A) (h2 : b ≠ w → B) : aGuard (.bool b) w A B := .inl ⟨b, rfl, h1, h2⟩
theorem aGuard_dec {p : Prop} [Decidable p] {A B : Prop} (h1 : p → A) (h2 : ¬ p → B) : aGuard (.bool (decide p)) true A B :=
  .inl ⟨_, rfl, fun h => h1 (by simpa using h), fun h => h2 (by simpa using h)⟩
theorem aGuard_tt' (A B : Prop) : aGuard (.bool true) true A B = A := by
  apply propext; constructor
  · rintro (⟨b, h, h1, h2⟩ | ⟨h, _⟩)
    · cases h; exact h1 rfl
    · cases h
  · intro h; exact .inl ⟨true, rfl, fun _ => h, fun h => absurd rfl h⟩
@[simp] theorem aGuard_tup (w : Bool) (A B : Prop) : hGuard (.tup []) w (A := ⟨A⟩) (B := ⟨B⟩) = B :=
  propext ⟨fun h => h.elim (fun ⟨b, h, _⟩ => by cases h) (fun h => h.2), fun h => .inr ⟨rfl, h⟩⟩
@[simp] theorem aGuard_tt (A B : Prop) : hGuard (.bool true) true (A := ⟨A⟩) (B := ⟨B⟩) = A := aGuard_tt' ..
theorem aGuard_tf' (A B : Prop) : aGuard (.bool true) false A B = B := by
  apply propext; constructor
  · rintro (⟨b, h, h1, h2⟩ | ⟨h, _⟩)
    · cases h; exact h2 (by simp)
    · cases h
  · intro h; exact .inl ⟨true, rfl, fun h => (by cases h), fun _ => h⟩
@[simp] theorem aGuard_tf (A B : Prop) : hGuard (.bool true) false (A := ⟨A⟩) (B := ⟨B⟩) = B := aGuard_tf' ..
theorem aGuard_ft' (A B : Prop) : aGuard (.bool false) true A B = B := by
  apply propext; constructor
  · rintro (⟨b, h, h1, h2⟩ | ⟨h, _⟩)
    · cases h; exact h2 (by simp)
    · cases h
  · intro h; exact .inl ⟨false, rfl, fun h => (by cases h), fun _ => h⟩
@[simp] theorem aGuard_ft (A B : Prop) : hGuard (.bool false) true (A := ⟨A⟩) (B := ⟨B⟩) = B := aGuard_ft' ..
theorem aGuard_ff' (A B : Prop) : aGuard (.bool false) false A B = A := by
  apply propext; constructor
  · rintro (⟨b, h, h1, h2⟩ | ⟨h, _⟩)
    · cases h; exact h1 rfl
    · cases h
  · intro h; exact .inl ⟨false, rfl, fun _ => h, fun h => absurd rfl h⟩
@[simp] theorem aGuard_ff (A B : Prop) : hGuard (.bool false) false (A := ⟨A⟩) (B := ⟨B⟩) = A := aGuard_ff' ..
section
variable {X : Ctx} {N : Nat} {ops : Array Oper} {lv : List Tmp} {r : Regs} {H : AH}

/-- The next operation, when the last one's answer is there. -/
def hNext (X : Ctx) (N : Nat) [ops : Hid (Array Oper)] (lv : List Tmp) [os : Hid (List Oper)] [r : Hid Regs] (d : Option Tmp) (H : AH) (v : AV) (wr : List (Nat × Slot)) [K : Hid (Regs → AH → Prop)] : Prop :=
  aOps X N ops.out lv os.out (r.out.put N d v) (H.upd wr) K.out
def hGo (X : Ctx) (N : Nat) [ops : Hid (Array Oper)] (lv : List Tmp) [os : Hid (List Oper)] [r : Hid Regs] (H : AH) [K : Hid (Regs → AH → Prop)] : Prop := aOps X N ops.out lv os.out r.out H K.out
def aNext (X : Ctx) (N : Nat) (ops : Array Oper) (lv : List Tmp) (os : List Oper) (r : Regs) (d : Option Tmp) (H : AH) (v : AV) (wr : List (Nat × Slot)) (K : Regs → AH → Prop) : Prop :=
  aOps X N ops lv os (r.put N d v) (H.upd wr) K
def hNextT (X : Ctx) (N : Nat) [ops : Hid (Array Oper)] (lv : List Tmp) [os : Hid (List Oper)] (i : Nat) [r : Hid Regs] (d : Option Tmp) (H : AH) (T : List (Nat × List Nat × List Nat)) (v : AV) (rd : List Nat) (wr : List (Nat × Slot)) [K : Hid (Regs → AH → Prop)] : Prop :=
  aTab X N ops.out lv os.out (i + 1) (r.out.put N d v) (H.upd wr) (addT i rd wr T) K.out
def hGoT (X : Ctx) (N : Nat) [ops : Hid (Array Oper)] (lv : List Tmp) [os : Hid (List Oper)] (i : Nat) [r : Hid Regs] (H : AH) (T : List (Nat × List Nat × List Nat)) [K : Hid (Regs → AH → Prop)] : Prop := aTab X N ops.out lv os.out i r.out H T K.out
def aNextT (X : Ctx) (N : Nat) (ops : Array Oper) (lv : List Tmp) (os : List Oper) (i : Nat) (r : Regs) (d : Option Tmp) (H : AH) (T : List (Nat × List Nat × List Nat)) (v : AV) (rd : List Nat) (wr : List (Nat × Slot)) (K : Regs → AH → Prop) : Prop :=
  aTab X N ops lv os (i + 1) (r.put N d v) (H.upd wr) (addT i rd wr T) K
@[simp ↓] theorem aNext_hide (os : List Oper) (d : Option Tmp) (v : AV) (wr : List (Nat × Slot)) (K : Regs → AH → Prop) : aNext X N ops lv os r d H v wr K = hNext X N (ops := ⟨ops⟩) lv (os := ⟨os⟩) (r := ⟨r⟩) d H v wr (K := ⟨K⟩) := (rfl)
@[simp ↓] theorem aNextT_hide (os : List Oper) (i : Nat) (d : Option Tmp) (T : List (Nat × List Nat × List Nat)) (v : AV) (rd : List Nat) (wr : List (Nat × Slot)) (K : Regs → AH → Prop) :
    aNextT X N ops lv os i r d H T v rd wr K = hNextT X N (ops := ⟨ops⟩) lv (os := ⟨os⟩) i (r := ⟨r⟩) d H T v rd wr (K := ⟨K⟩) := (rfl)
@[simp] theorem hGo_eq (os : List Oper) (K : Regs → AH → Prop) : hGo X N (ops := ⟨ops⟩) lv (os := ⟨os⟩) (r := ⟨r⟩) H (K := ⟨K⟩) = aOps X N ops lv os r H K := (rfl)
@[simp] theorem hGoT_eq (os : List Oper) (i : Nat) (T : List (Nat × List Nat × List Nat)) (K : Regs → AH → Prop) : hGoT X N (ops := ⟨ops⟩) lv (os := ⟨os⟩) i (r := ⟨r⟩) H T (K := ⟨K⟩) = aTab X N ops lv os i r H T K := (rfl)
@[simp] theorem hNext_none (os : List Oper) (v : AV) (K : Regs → AH → Prop) : hNext X N (ops := ⟨ops⟩) lv (os := ⟨os⟩) (r := ⟨r⟩) none H v [] (K := ⟨K⟩) = aOps X N ops lv os r H K := (rfl)
@[simp] theorem hNext_none1 (os : List Oper) (v : AV) (i : Nat) (s : Slot) (K : Regs → AH → Prop) : hNext X N (ops := ⟨ops⟩) lv (os := ⟨os⟩) (r := ⟨r⟩) none H v [(i, s)] (K := ⟨K⟩) = hGo X N (ops := ⟨ops⟩) lv (os := ⟨os⟩) (r := ⟨r⟩) (H.put i s) (K := ⟨K⟩) := (rfl)
@[simp] theorem hNext_some (os : List Oper) (d : Tmp) (v : AV) (K : Regs → AH → Prop) (hd : d < N) : hNext X N (ops := ⟨ops⟩) lv (os := ⟨os⟩) (r := ⟨r⟩) (some d) H v [] (K := ⟨K⟩) = aOps X N ops lv os ((d, v) :: r) H K := by
  simp only [hNext, Regs.put, hd, if_true, upd_nil]
@[simp] theorem hNext_some1 (os : List Oper) (d : Tmp) (v : AV) (i : Nat) (s : Slot) (K : Regs → AH → Prop) (hd : d < N) :
    hNext X N (ops := ⟨ops⟩) lv (os := ⟨os⟩) (r := ⟨r⟩) (some d) H v [(i, s)] (K := ⟨K⟩) = hGo X N (ops := ⟨ops⟩) lv (os := ⟨os⟩) (r := ⟨(d, v) :: r⟩) (H.put i s) (K := ⟨K⟩) := by
  simp only [hNext, Regs.put, hd, if_true, hGo]; rfl
@[simp] theorem hNextT_none (os : List Oper) (i : Nat) (T : List (Nat × List Nat × List Nat)) (v : AV) (rd : List Nat) (wr : List (Nat × Slot)) (K : Regs → AH → Prop) :
    hNextT X N (ops := ⟨ops⟩) lv (os := ⟨os⟩) i (r := ⟨r⟩) none H T v rd wr (K := ⟨K⟩) = hGoT X N (ops := ⟨ops⟩) lv (os := ⟨os⟩) (i + 1) (r := ⟨r⟩) (H.upd wr) (addT i rd wr T) (K := ⟨K⟩) := (rfl)
@[simp] theorem hNextT_some (os : List Oper) (i : Nat) (T : List (Nat × List Nat × List Nat)) (d : Tmp) (v : AV) (rd : List Nat) (wr : List (Nat × Slot)) (K : Regs → AH → Prop) (hd : d < N) :
    hNextT X N (ops := ⟨ops⟩) lv (os := ⟨os⟩) i (r := ⟨r⟩) (some d) H T v rd wr (K := ⟨K⟩) = hGoT X N (ops := ⟨ops⟩) lv (os := ⟨os⟩) (i + 1) (r := ⟨(d, v) :: r⟩) (H.upd wr) (addT i rd wr T) (K := ⟨K⟩) := by
  simp only [hNextT, Regs.put, hd, if_true, hGoT]
def hLoop (X : Ctx) (N : Nat) [c : Hid Code] [r : Hid Regs] (H : AH) [Q : Hid (AX → Regs → AH → Prop)] : Prop := AWp X N (.loop c.out) r.out H Q.out

@[simp ↓] theorem aOps_nil (K : Regs → AH → Prop) : aOps X N ops lv [] r H K = K r H := (rfl)
def hStepN (X : Ctx) [ops : Hid (Array Oper)] (lv : List Tmp) [o : Hid Oper] [r : Hid Regs] (H : AH) [K : Hid (AV → AH → Prop)] : Prop := aStepN X ops.out lv o.out r.out H K.out
/-- What follows a call. -/
def hCalls (X : Ctx) (f : FuncId) (args : List AV) (H : AH) [K : Hid (AV → AH → Prop)] : Prop := ACalls X f args H K.out
def hAfter (X : Ctx) (N : Nat) [ops : Hid (Array Oper)] (lv : List Tmp) [os : Hid (List Oper)] [r : Hid Regs] (d : Option Tmp) (H : AH) (v : AV) [K : Hid (Regs → AH → Prop)] : Prop :=
  aOps X N ops.out lv os.out (r.out.put N d v) H K.out
def aAfter (X : Ctx) (N : Nat) (ops : Array Oper) (lv : List Tmp) (os : List Oper) (r : Regs) (d : Option Tmp) (v : AV) (H : AH) (K : Regs → AH → Prop) : Prop := aOps X N ops lv os (r.put N d v) H K
@[simp ↓] theorem aAfter_hide (os : List Oper) (d : Option Tmp) (v : AV) (K : Regs → AH → Prop) : aAfter X N ops lv os r d v H K = hAfter X N (ops := ⟨ops⟩) lv (os := ⟨os⟩) (r := ⟨r⟩) d H v (K := ⟨K⟩) := (rfl)
@[simp] theorem hAfter_none (os : List Oper) (v : AV) (K : Regs → AH → Prop) : hAfter X N (ops := ⟨ops⟩) lv (os := ⟨os⟩) (r := ⟨r⟩) none H v (K := ⟨K⟩) = aOps X N ops lv os r H K := (rfl)
@[simp] theorem hAfter_some (os : List Oper) (d : Tmp) (v : AV) (K : Regs → AH → Prop) (hd : d < N) : hAfter X N (ops := ⟨ops⟩) lv (os := ⟨os⟩) (r := ⟨r⟩) (some d) H v (K := ⟨K⟩) = aOps X N ops lv os ((d, v) :: r) H K := by
  simp only [hAfter, Regs.put, hd, if_true]
@[simp ↓] theorem aOps_cons (o : Oper) (os : List Oper) (K : Regs → AH → Prop) : aOps X N ops lv (o :: os) r H K = aStepN X ops lv o r H fun v H' => aAfter X N ops lv os r o.dst v H' K := (rfl)
@[simp ↓] theorem aStepN_none (d : Option Tmp) (op : Op) (t : TypeId) (p : String) (a : Array Edge) (K : AV → AH → Prop) : aStepN X ops lv ⟨d, op, t, p, a, none⟩ r H K = aOpN X (lvOf lv d) op r H K := (rfl)
@[simp ↓] theorem aStepN_some (d : Option Tmp) (op : Op) (t : TypeId) (p : String) (a : Array Edge) (j : Nat) (w : Bool) (K : AV → AH → Prop) :
    aStepN X ops lv ⟨d, op, t, p, a, some (j, w)⟩ r H K = aSome ((ops[j]?).bind (·.dst)) fun t => aGuard (r.get t) w (aOpN X (lvOf lv d) op r H K) (K (.tup []) H) := by
  simp only [aStepN, aSome, aGuard]
  apply propext
  cases h1 : (ops[j]?).bind (·.dst) with
  | none => simp
  | some t =>
    simp only [Option.some.injEq, exists_eq_left']
    cases h2 : r.get t <;> simp
    rename_i vs
    cases vs <;> simp
@[simp ↓] theorem aOpN_call (l : Bool) (f : Operand) (xs : Array Operand) (ts : Array TypeId) (K : AV → AH → Prop) : aOpN X l (.call { callee := .value f, args := xs, argTypes := ts }) r H K = aFnN X (r.ev f) (xs.toList.map r.ev) H K := (rfl)
/-- Where the answer and the memory go on. -/
def kN (H : AH) (K : AV → AH → Prop) (v : AV) (wr : List (Nat × Slot)) : Prop := K v (H.upd wr)
def hKN (H : AH) [K : Hid (AV → AH → Prop)] (v : AV) (wr : List (Nat × Slot)) : Prop := K.out v (H.upd wr)
@[simp ↓] theorem kN_hide (K : AV → AH → Prop) (v : AV) (wr : List (Nat × Slot)) : kN H K v wr = hKN H (K := ⟨K⟩) v wr := (rfl)
def hKH (H : AH) [K : Hid (AV → AH → Prop)] (v : AV) : Prop := K.out v H
@[simp] theorem hKN_nil (K : AV → AH → Prop) (v : AV) : hKN H (K := ⟨K⟩) v [] = K v H := (rfl)
@[simp] theorem hKN_upd (K : AV → AH → Prop) (v : AV) (x : Nat × Slot) (wr : List (Nat × Slot)) : hKN H (K := ⟨K⟩) v (x :: wr) = hKH (H.upd (x :: wr)) (K := ⟨K⟩) v := (rfl)
@[simp] theorem hKH_eq (K : AV → AH → Prop) (v : AV) : hKH H (K := ⟨K⟩) v = K v H := (rfl)
@[simp ↓] theorem aOpN_move (l : Bool) (x : Operand) (K : AV → AH → Prop) : aOpN X l (.move x) r H K = aOp X l (.move x) r H fun v _ wr => kN H K v wr := (rfl)
@[simp ↓] theorem aOpN_assign (l : Bool) (x : Operand) (K : AV → AH → Prop) : aOpN X l (.assign x) r H K = aOp X l (.assign x) r H fun v _ wr => kN H K v wr := (rfl)
@[simp ↓] theorem aOpN_pick (l : Bool) (c x y : Operand) (K : AV → AH → Prop) : aOpN X l (.pick c x y) r H K = aOp X l (.pick c x y) r H fun v _ wr => kN H K v wr := (rfl)
@[simp ↓] theorem aOpN_nilCheck (l : Bool) (x : Operand) (K : AV → AH → Prop) : aOpN X l (.nilCheck x) r H K = aOp X l (.nilCheck x) r H fun v _ wr => kN H K v wr := (rfl)
@[simp ↓] theorem aOpN_unOp (l : Bool) (o : UnOp) (t : TypeId) (x : Operand) (K : AV → AH → Prop) : aOpN X l (.unOp o t x) r H K = aOp X l (.unOp o t x) r H fun v _ wr => kN H K v wr := (rfl)
@[simp ↓] theorem aOpN_binOp (l : Bool) (o : BinOp) (t : TypeId) (x y : Operand) (u : TypeId) (K : AV → AH → Prop) : aOpN X l (.binOp o t x y u) r H K = aOp X l (.binOp o t x y u) r H fun v _ wr => kN H K v wr := (rfl)
@[simp ↓] theorem aOpN_load (l : Bool) (t : TypeId) (x : Operand) (K : AV → AH → Prop) : aOpN X l (.load t x) r H K = aOp X l (.load t x) r H fun v _ wr => kN H K v wr := (rfl)
@[simp ↓] theorem aOpN_store (l : Bool) (t : TypeId) (p x : Operand) (K : AV → AH → Prop) : aOpN X l (.store t p x) r H K = aOp X l (.store t p x) r H fun v _ wr => kN H K v wr := (rfl)
@[simp ↓] theorem aOpN_fieldAddr (l : Bool) (t : TypeId) (x : Operand) (f : Nat) (K : AV → AH → Prop) : aOpN X l (.fieldAddr t x f) r H K = aOp X l (.fieldAddr t x f) r H fun v _ wr => kN H K v wr := (rfl)
@[simp ↓] theorem aOpN_field (l : Bool) (t : TypeId) (x : Operand) (f : Nat) (K : AV → AH → Prop) : aOpN X l (.field t x f) r H K = aOp X l (.field t x f) r H fun v _ wr => kN H K v wr := (rfl)
@[simp ↓] theorem aOpN_indexAddr (l : Bool) (t : TypeId) (x i : Operand) (K : AV → AH → Prop) : aOpN X l (.indexAddr t x i) r H K = aOp X l (.indexAddr t x i) r H fun v _ wr => kN H K v wr := (rfl)
@[simp ↓] theorem aOpN_index (l : Bool) (t : TypeId) (x i : Operand) (K : AV → AH → Prop) : aOpN X l (.index t x i) r H K = aOp X l (.index t x i) r H fun v _ wr => kN H K v wr := (rfl)
@[simp ↓] theorem aOpN_extract (l : Bool) (x : Operand) (i : Nat) (K : AV → AH → Prop) : aOpN X l (.extract x i) r H K = aOp X l (.extract x i) r H fun v _ wr => kN H K v wr := (rfl)
@[simp ↓] theorem aOpN_makeInterface (l : Bool) (t : TypeId) (x : Operand) (K : AV → AH → Prop) : aOpN X l (.makeInterface t x) r H K = aOp X l (.makeInterface t x) r H fun v _ wr => kN H K v wr := (rfl)
@[simp ↓] theorem aOpN_makeFunc (l : Bool) (fn : Fn) (f c : Array Operand) (K : AV → AH → Prop) : aOpN X l (.makeFunc fn f c) r H K = aOp X l (.makeFunc fn f c) r H fun v _ wr => kN H K v wr := (rfl)
@[simp ↓] theorem aOpN_build (l : Bool) (t : TypeId) (ps : Array (Nat × Operand)) (K : AV → AH → Prop) : aOpN X l (.build t ps) r H K = aOp X l (.build t ps) r H fun v _ wr => kN H K v wr := (rfl)
@[simp ↓] theorem aOpN_buildSlice (l : Bool) (t : TypeId) (n : Nat) (ps : Array (Nat × Operand)) (K : AV → AH → Prop) : aOpN X l (.buildSlice t n ps) r H K = aOp X l (.buildSlice t n ps) r H fun v _ wr => kN H K v wr := (rfl)
@[simp ↓] theorem aOpN_alloc (l : Bool) (t : TypeId) (K : AV → AH → Prop) : aOpN X l (.alloc t) r H K = aOp X l (.alloc t) r H fun v _ wr => kN H K v wr := (rfl)
@[simp ↓] theorem aOpN_box (l : Bool) (t : TypeId) (x : Operand) (K : AV → AH → Prop) : aOpN X l (.box t x) r H K = aOp X l (.box t x) r H fun v _ wr => kN H K v wr := (rfl)
@[simp ↓] theorem aOpN_slice (l : Bool) (t : TypeId) (x : Operand) (lo hi mx : Option Operand) (K : AV → AH → Prop) : aOpN X l (.slice t x lo hi mx) r H K = aOp X l (.slice t x lo hi mx) r H fun v _ wr => kN H K v wr := (rfl)
@[simp ↓] theorem aOpN_convert (l : Bool) (s d : TypeId) (x : Operand) (K : AV → AH → Prop) : aOpN X l (.convert s d x) r H K = aOp X l (.convert s d x) r H fun v _ wr => kN H K v wr := (rfl)
@[simp ↓] theorem aOpN_makeSlice (l : Bool) (t : TypeId) (x c : Operand) (K : AV → AH → Prop) : aOpN X l (.makeSlice t x c) r H K = aOp X l (.makeSlice t x c) r H fun v _ wr => kN H K v wr := (rfl)
@[simp ↓] theorem aOpN_builtin (l : Bool) (f : Builtin) (xs : Array Operand) (ts : Array TypeId) (K : AV → AH → Prop) : aOpN X l (.call { callee := .builtin f, args := xs, argTypes := ts }) r H K = aOp X l (.call { callee := .builtin f, args := xs, argTypes := ts }) r H fun v _ wr => kN H K v wr := (rfl)
@[simp ↓] theorem aOpN_makeMap (l : Bool) (t : TypeId) (rv : Option Operand) (K : AV → AH → Prop) : aOpN X l (.makeMap t rv) r H K = aOp X l (.makeMap t rv) r H fun v _ wr => kN H K v wr := (rfl)
@[simp ↓] theorem aOpN_lookup (l : Bool) (t : TypeId) (x i : Operand) (ok : Bool) (K : AV → AH → Prop) : aOpN X l (.lookup t x i ok) r H K = aOp X l (.lookup t x i ok) r H fun v _ wr => kN H K v wr := (rfl)
@[simp ↓] theorem aOpN_mapUpdate (l : Bool) (t : TypeId) (x i u : Operand) (K : AV → AH → Prop) : aOpN X l (.mapUpdate t x i u) r H K = aOp X l (.mapUpdate t x i u) r H fun v _ wr => kN H K v wr := (rfl)
def hFnN (X : Ctx) (f : AV) (args : List AV) (H : AH) [K : Hid (AV → AH → Prop)] : Prop := aFnN X f args H K.out
@[simp ↓] theorem aFnN_hide (f : AV) (args : List AV) (K : AV → AH → Prop) : aFnN X f args H K = hFnN X f args H (K := ⟨K⟩) := (rfl)
@[simp] theorem hFnN_func (g : FuncId) (fs cs args : List AV) (K : AV → AH → Prop) : hFnN X (.func (.func g) fs cs) args H (K := ⟨K⟩) = hCalls X g (fs ++ args ++ cs) H (K := ⟨K⟩) := (rfl)
theorem ACalc.go {f : FuncId} {args : List AV} {v : AV} (h : ACalc X f args v) {K : AV → AH → Prop} (hK : K v H) : ACalls X f args H K := (h H).mono fun v' H' ⟨h1, h2⟩ => by subst h1 h2; exact hK
@[simp ↓] theorem aTab_nil (i : Nat) (T : List (Nat × List Nat × List Nat)) (K : Regs → AH → Prop) : aTab X N ops lv [] i r H T K = aIf (chkH ops T) (K r H) := (rfl)
@[simp ↓] theorem aTab_cons (o : Oper) (os : List Oper) (i : Nat) (T : List (Nat × List Nat × List Nat)) (K : Regs → AH → Prop) :
    aTab X N ops lv (o :: os) i r H T K = aStep X ops lv o r H fun v rd wr => aNextT X N ops lv os i r o.dst H T v rd wr K := (rfl)
@[simp] theorem addT_nil (i : Nat) (wr : List (Nat × Slot)) (T : List (Nat × List Nat × List Nat)) : addT i [] wr T = T := (rfl)
@[simp] theorem addT_cons (i a : Nat) (rd : List Nat) (wr : List (Nat × Slot)) (T : List (Nat × List Nat × List Nat)) : addT i (a :: rd) wr T = (i, a :: rd, wr.map (·.1)) :: T := (rfl)
@[simp] theorem chkH_nil : chkH ops [] = True := by simp [chkH]
@[simp] theorem chkH_one (x : Nat × List Nat × List Nat) : chkH ops [x] = True := by simp [chkH]
attribute [simp] AH.upd_cons AH.put_put
@[simp] theorem AH.get_put_same (H : AH) (i : Nat) (s : Slot) : (H.put i s).get i = s := AH.put_same H i s
@[simp] theorem AH.get_put_ne (H : AH) (i j : Nat) (s : Slot) (h : ¬ j = i) : (H.put i s).get j = H.get j := AH.put_ne H s h
@[simp] theorem AH.nx_put_new (H : AH) (s : Slot) : (H.put H.nx s).nx = H.nx + 1 := by simp [AH.put]
@[simp] theorem AH.nx_put_old (H : AH) (i : Nat) (s : Slot) (h : i < H.nx) : (H.put i s).nx = H.nx := by simp [AH.put, h]

@[simp ↓] theorem Regs.get_nil (t : Nat) : Regs.get [] t = .any := (rfl)
@[simp ↓] theorem Regs.get_cons (k : Nat) (v : AV) (r : Regs) (t : Nat) : Regs.get ((k, v) :: r) t = if t = k then v else Regs.get r t := (rfl)
@[simp ↓] theorem Regs.ev_tmp (r : Regs) (t : Nat) : r.ev (.tmp t) = r.get t := (rfl)
@[simp ↓] theorem Regs.ev_const (r : Regs) (v : Value) : r.ev (.const v) = avOf v := (rfl)
@[simp ↓] theorem Regs.ev_global (r : Regs) (g : Nat) : r.ev (.global g) = .gptr g := (rfl)
@[simp ↓] theorem Regs.ev_func (r : Regs) (f : Nat) : r.ev (.func f) = .func (.func f) [] [] := (rfl)
@[simp] theorem avOf_bool (b : Bool) : avOf (.bool b) = .bool b := (rfl)
@[simp] theorem avOf_int (k : IntKind) (n : Int) : avOf (.int k n) = .int k n := (rfl)
@[simp] theorem avOf_str (s : ByteArray) : avOf (.string s) = .str s.data.toList := (rfl)
@[simp] theorem avOf_nilp : avOf (.pointer none) = .nilp := (rfl)
@[simp] theorem avOf_nils : avOf (.slice none 0 0) = .csl [] := (rfl)
@[simp] theorem avOf_nili : avOf .nilIface = .nili := (rfl)
@[simp] theorem avOf_nilf : avOf .nilFunc = .nilf := (rfl)
@[simp] theorem avOf_agg (cs : Array Value) : avOf (.agg cs) = .agg (cs.toList.map avOf1) := (rfl)
@[simp] theorem avOf_tup (cs : Array Value) : avOf (.tuple cs) = .tup (cs.toList.map avOf1) := (rfl)
@[simp] theorem avOf1_bool (b : Bool) : avOf1 (.bool b) = .bool b := (rfl)
@[simp] theorem avOf1_int (k : IntKind) (n : Int) : avOf1 (.int k n) = .int k n := (rfl)
@[simp] theorem avOf1_str (s : ByteArray) : avOf1 (.string s) = .str s.data.toList := (rfl)
@[simp] theorem avOf1_nilp : avOf1 (.pointer none) = .nilp := (rfl)
@[simp] theorem avOf1_nils : avOf1 (.slice none 0 0) = .csl [] := (rfl)
@[simp] theorem avOf1_nili : avOf1 .nilIface = .nili := (rfl)
@[simp] theorem avOf1_nilf : avOf1 .nilFunc = .nilf := (rfl)
@[simp] theorem lvOf_none (lv : List Tmp) : lvOf lv none = false := (rfl)
@[simp] theorem lvOf_some (lv : List Tmp) (t : Tmp) : lvOf lv (some t) = lv.contains t := (rfl)

/-! ### Code -/
@[simp ↓] theorem aC_skip (Q : AX → Regs → AH → Prop) : aC X N lv .skip r H Q = Q .normal r H := (rfl)
@[simp ↓] theorem aC_region (id : Nat) (os : Array Oper) (Q : AX → Regs → AH → Prop) : aC X N lv (.region id os false) r H Q = aOps X N os lv os.toList r H (Q .normal) := (rfl)
theorem aC_draw (id : Nat) (os : Array Oper) (Q : AX → Regs → AH → Prop) (hc : chkR os = true) : aC X N lv (.region id os true) r H Q = aTab X N os lv os.toList 0 r H [] (Q .normal) := by
  simp only [aC, hc, true_and]
@[simp ↓] theorem aC_seq (a b : Code) (Q : AX → Regs → AH → Prop) : aC X N lv (.seq a b) r H Q = aC X N lv a r H (seqQ (fun r' H' => aC X N lv b r' H' Q) Q) := (rfl)
@[simp ↓] theorem aC_cond (c : Operand) (a b : Code) (Q : AX → Regs → AH → Prop) : aC X N lv (.cond c a b) r H Q = aCond (r.ev c) (aC X N lv a r H Q) (aC X N lv b r H Q) := (rfl)
@[simp ↓] theorem aC_block (id : Nat) (c : Code) (Q : AX → Regs → AH → Prop) : aC X N lv (.block id c) r H Q = aC X N lv c r H (blkQ id Q) := (rfl)
@[simp ↓] theorem aC_exit (id : Nat) (Q : AX → Regs → AH → Prop) : aC X N lv (.exit id) r H Q = Q (.exit id) r H := (rfl)
@[simp ↓] theorem aC_ret (Q : AX → Regs → AH → Prop) : aC X N lv .ret r H Q = Q .ret r H := (rfl)
@[simp ↓] theorem aC_loop (c : Code) (Q : AX → Regs → AH → Prop) : aC X N lv (.loop c) r H Q = hLoop X N (c := ⟨c⟩) (r := ⟨r⟩) H (Q := ⟨Q⟩) := (rfl)
@[simp ↓] theorem seqQ_normal (K : Regs → AH → Prop) (Q : AX → Regs → AH → Prop) : seqQ K Q .normal r H = K r H := (rfl)
@[simp ↓] theorem seqQ_exit (K : Regs → AH → Prop) (Q : AX → Regs → AH → Prop) (i : Nat) : seqQ K Q (.exit i) r H = Q (.exit i) r H := (rfl)
@[simp ↓] theorem seqQ_ret (K : Regs → AH → Prop) (Q : AX → Regs → AH → Prop) : seqQ K Q .ret r H = Q .ret r H := (rfl)
@[simp ↓] theorem blkQ_normal (id : Nat) (Q : AX → Regs → AH → Prop) : blkQ id Q .normal r H = Q .normal r H := (rfl)
@[simp ↓] theorem blkQ_exit (id : Nat) (Q : AX → Regs → AH → Prop) (i : Nat) : blkQ id Q (.exit i) r H = if i = id then Q .normal r H else Q (.exit i) r H := (rfl)
@[simp ↓] theorem blkQ_ret (id : Nat) (Q : AX → Regs → AH → Prop) : blkQ id Q .ret r H = Q .ret r H := (rfl)

/-- A function's end. -/
def fnQ (X : Ctx) (rs : List ResultVar) (H0 : AH) (Q : AV → AH → Prop) (x : AX) (r : Regs) (H : AH) : Prop := (∀ i, x ≠ .exit i) ∧ aRes X rs r H fun vs => Leave X H0 (retV vs) H Q
@[simp ↓] theorem fnQ_normal (rs : List ResultVar) (H0 : AH) (Q : AV → AH → Prop) : fnQ X rs H0 Q .normal r H = aRes X rs r H fun vs => Leave X H0 (retV vs) H Q := by simp [fnQ]
@[simp ↓] theorem fnQ_ret (rs : List ResultVar) (H0 : AH) (Q : AV → AH → Prop) : fnQ X rs H0 Q .ret r H = aRes X rs r H fun vs => Leave X H0 (retV vs) H Q := by simp [fnQ]
@[simp ↓] theorem aRes_nil (K : List AV → Prop) : aRes X [] r H K = K [] := (rfl)
@[simp ↓] theorem aRes_tmp (t : Tmp) (rs : List ResultVar) (K : List AV → Prop) : aRes X (.tmp t :: rs) r H K = aRes X rs r H fun vs => K (r.get t :: vs) := (rfl)
@[simp ↓] theorem aRes_cell (a : Tmp) (t : TypeId) (rs : List ResultVar) (K : List AV → Prop) : aRes X (.cell a t :: rs) r H K = aLoad X t (r.get a) H fun v _ _ => aRes X rs r H fun vs => K (v :: vs) := (rfl)
@[simp] theorem retV_one (v : AV) : retV [v] = v := (rfl)
@[simp] theorem retV_nil : retV [] = .tup [] := (rfl)
@[simp] theorem retV_two (v u : AV) (vs : List AV) : retV (v :: u :: vs) = .tup (v :: u :: vs) := (rfl)

theorem acalls' {f : FuncId} {fn : Func} {N : Nat} {rs : List ResultVar} {c : Code} {args : List AV} {Q : AV → AH → Prop} (lv : List Tmp) (hf : X.P.funcs[f]? = some fn) (hb : fn.body = some c) (hN : fn.ntmps = N) (hrs : fn.results.toList = rs)
    (hn : fn.name ≠ "runtime.NumGoroutine") (hl : args.length ≤ N) (h : aC X N lv c (entryR 0 args) H (fnQ X rs H Q)) : ACalls X f args H Q :=
  acalls hf hb hN hrs hn hl (aC_sound (lv := lv) _ _ _ _ h)

/-! ### Operations -/
@[simp ↓] theorem aStep_none (d : Option Tmp) (op : Op) (t : TypeId) (p : String) (a : Array Edge) (K : Post) : aStep X ops lv ⟨d, op, t, p, a, none⟩ r H K = aOp X (lvOf lv d) op r H K := (rfl)
@[simp ↓] theorem aStep_some (d : Option Tmp) (op : Op) (t : TypeId) (p : String) (a : Array Edge) (j : Nat) (w : Bool) (K : Post) :
    aStep X ops lv ⟨d, op, t, p, a, some (j, w)⟩ r H K = aSome ((ops[j]?).bind (·.dst)) fun t => aGuard (r.get t) w (aOp X (lvOf lv d) op r H K) (K (.tup []) [] []) := by
  simp only [aStep, aSome, aGuard]
  apply propext
  cases h1 : (ops[j]?).bind (·.dst) with
  | none => simp
  | some t =>
    simp only [Option.some.injEq, exists_eq_left']
    cases h2 : r.get t <;> simp
    rename_i vs
    cases vs <;> simp

variable {l : Bool} {K : Post}
@[simp ↓] theorem aOp_move (x : Operand) : aOp X l (.move x) r H K = K (r.ev x) [] [] := (rfl)
@[simp ↓] theorem aOp_assign (x : Operand) : aOp X l (.assign x) r H K = K (r.ev x) [] [] := (rfl)
@[simp ↓] theorem aOp_pick (c x y : Operand) : aOp X l (.pick c x y) r H K = aPick (r.ev c) (r.ev x) (r.ev y) K := (rfl)
@[simp ↓] theorem aOp_nilCheck (x : Operand) : aOp X l (.nilCheck x) r H K = aIf ((r.ev x).notNil = true) (K (r.ev x) [] []) := (rfl)
@[simp ↓] theorem aOp_unOp (op : UnOp) (t : TypeId) (x : Operand) : aOp X l (.unOp op t x) r H K = aUn op (r.ev x) K := (rfl)
@[simp ↓] theorem aOp_binOp (op : BinOp) (t u : TypeId) (x y : Operand) : aOp X l (.binOp op t x y u) r H K = aBin X op t (r.ev x) (r.ev y) (constOp y) K := (rfl)
@[simp ↓] theorem aOp_load (t : TypeId) (x : Operand) : aOp X l (.load t x) r H K = aLoad X t (r.ev x) H K := (rfl)
@[simp ↓] theorem aOp_store (t : TypeId) (p x : Operand) : aOp X l (.store t p x) r H K = aStore X t (r.ev p) (r.ev x) H K := (rfl)
@[simp ↓] theorem aOp_fieldAddr (t : TypeId) (x : Operand) (f : Nat) : aOp X l (.fieldAddr t x f) r H K = aFieldAddr X t (r.ev x) f K := (rfl)
@[simp ↓] theorem aOp_field (t : TypeId) (x : Operand) (f : Nat) : aOp X l (.field t x f) r H K = aField X t (r.ev x) f K := (rfl)
@[simp ↓] theorem aOp_indexAddr (t : TypeId) (x i : Operand) : aOp X l (.indexAddr t x i) r H K = aIndexAddr (H := H) X t (r.ev x) (r.ev i) K := (rfl)
@[simp ↓] theorem aOp_index (t : TypeId) (x i : Operand) : aOp X l (.index t x i) r H K = aIndex X t (r.ev x) (r.ev i) K := (rfl)
@[simp ↓] theorem aOp_extract (x : Operand) (i : Nat) : aOp X l (.extract x i) r H K = aExtract (r.ev x) i K := (rfl)
@[simp ↓] theorem aOp_makeInterface (t : TypeId) (x : Operand) : aOp X l (.makeInterface t x) r H K = aIf (X.P.concrete t = true) (K (.iface t (r.ev x)) [] []) := (rfl)
@[simp ↓] theorem aOp_makeFunc (fn : Fn) (f c : Array Operand) : aOp X l (.makeFunc fn f c) r H K = K (.func fn (f.toList.map r.ev) (c.toList.map r.ev)) [] [] := (rfl)
@[simp ↓] theorem aOp_build (t : TypeId) (ps : Array (Nat × Operand)) : aOp X l (.build t ps) r H K = aBuild X t (ps.toList.map fun p => (p.1, r.ev p.2)) K := (rfl)
@[simp ↓] theorem aOp_buildSlice (t : TypeId) (n : Nat) (ps : Array (Nat × Operand)) : aOp X l (.buildSlice t n ps) r H K = aBuildSlice X l t n (ps.toList.map fun p => (p.1, r.ev p.2)) H K := (rfl)
@[simp ↓] theorem aOp_alloc (t : TypeId) : aOp X l (.alloc t) r H K = aAlloc X t H K := (rfl)
@[simp ↓] theorem aOp_box (t : TypeId) (x : Operand) : aOp X l (.box t x) r H K = aBox (r.ev x) H K := (rfl)
@[simp ↓] theorem aOp_slice (t : TypeId) (x : Operand) (lo hi mx : Option Operand) : aOp X l (.slice t x lo hi mx) r H K = aSlice (H := H) X t (r.ev x) (lo.map r.ev) (hi.map r.ev) (mx.map r.ev) K := (rfl)
@[simp ↓] theorem aOp_convert (s d : TypeId) (x : Operand) : aOp X l (.convert s d x) r H K = aConv X l s d (r.ev x) H K := (rfl)
@[simp ↓] theorem aOp_makeSlice (t : TypeId) (x c : Operand) : aOp X l (.makeSlice t x c) r H K = aMake X l t (r.ev x) (r.ev c) H K := (rfl)
@[simp ↓] theorem aOp_callv (f : Operand) (xs : Array Operand) (ts : Array TypeId) : aOp X l (.call { callee := .value f, args := xs, argTypes := ts }) r H K = aFn X (r.ev f) (xs.toList.map r.ev) H K := (rfl)
@[simp ↓] theorem aOp_makeMap (t : TypeId) : aOp X l (.makeMap t none) r H K = K (.map H.nx) [H.nx] [(H.nx, .mapo [])] := (rfl)
@[simp ↓] theorem aOp_lookup (t : TypeId) (x i : Operand) : aOp X l (.lookup t x i false) r H K = aLookup X t (r.ev x) (r.ev i) H K := (rfl)
@[simp ↓] theorem aOp_mapUpdate (t : TypeId) (x i v : Operand) : aOp X l (.mapUpdate t x i v) r H K = aMapUpdate X t (r.ev x) (r.ev i) (r.ev v) H K := (rfl)
@[simp ↓] theorem aOp_copy (d x : Operand) (t s : TypeId) : aOp X l (.call { callee := .builtin .copy, args := #[d, x], argTypes := #[t, s] }) r H K = aCopy X t s (r.ev d) (r.ev x) H K := (rfl)
@[simp ↓] theorem aOp_min (x y : Operand) (ts : Array TypeId) : aOp X l (.call { callee := .builtin .min, args := #[x, y], argTypes := ts }) r H K = aMinMax false (r.ev x) (r.ev y) K := (rfl)
@[simp ↓] theorem aOp_max (x y : Operand) (ts : Array TypeId) : aOp X l (.call { callee := .builtin .max, args := #[x, y], argTypes := ts }) r H K = aMinMax true (r.ev x) (r.ev y) K := (rfl)
@[simp ↓] theorem aOp_len (x : Operand) (t : TypeId) : aOp X l (.call { callee := .builtin .len, args := #[x], argTypes := #[t] }) r H K = aLen X t (r.ev x) K := (rfl)
@[simp ↓] theorem aOp_append (s x : Operand) (t : TypeId) : aOp X l (.call { callee := .builtin .append, args := #[s, x], argTypes := #[t, t] }) r H K = aAppend X l t (r.ev s) (r.ev x) H K := by
  show (t = t ∧ _) = _
  simp
end
end Go.Proofs.YtndoembhbfiokaaGreatDoor.Am
