/- The logic and the contracts that the laws stand on, part 24. -/
import Derived.Test.YtndoembhbfiokaaDoorAaw
set_option linter.unusedVariables false
set_option linter.unusedSimpArgs false
namespace Go.Proofs.YtndoembhbfiokaaDoor.Am
open Go.RowKit Go.Proofs

def copyV (m : Nat) (p : PlanD) : AV := .agg [.int .i64 p.id, .bool p.mobile, .sl (m + 2) 0 0 p.pages.length, .sl (m + 3) 0 0 p.procs.length, .fsl (p.ports.map encPort), .int .i64 p.events, .sl (m + 4) 0 0 p.sems.length]
structure CopyLive (H : AH) (p : PlanD) (v : AV) (K : AH) : Prop where
  val : v = copyV H.nx p
  pages : K.get (H.nx + 2) = .row (p.pages.map encPage) 2 0
  procs : K.get (H.nx + 3) = .row (p.procs.map encProc) 3 0
  sems : K.get (H.nx + 4) = .row (p.sems.map encInt) 1 0
  keep : ∀ i, H.get i ≠ .free → K.get i = H.get i
theorem planCopy_live {X : Ctx} (hS : Sent X) (p : PlanD) (hp : p.Small) (H : AH) : ACalls X 18 [encPlan p] H (CopyLive H p) := by
  refine acalls' (N := 24) (rs := [.cell 2 56]) [6, 11, 21] (by rw [hS.P]; exact Tryd.func18) rfl rfl rfl (by decide) (by simp) ?_
  obtain ⟨l1, l2, l3, l4⟩ := id hp
  have f : ∀ k, H.get (H.nx + k) = .free := fun k => AH.free_add H k
  have o1 : H.nx < H.nx + 1 + 1 := by omega
  have o2 : H.nx < H.nx + 1 + 1 + 1 := by omega
  have o3 : H.nx < H.nx + 1 + 1 + 1 + 1 := by omega
  simp [entryR, hS.P, AH.nx_put, encPlan, o1, o2, o3]
  refine aIf_mk (by omega) ?_
  simp [hS.P, AH.nx_put, o1, o2, o3]
  refine aIf_mk (by omega) ?_
  simp [hS.P, AH.nx_put, o1, o2, o3]
  refine aIf_mk (by omega) ?_
  simp [hS.P, AH.nx_put, o1, o2, o3]
  refine aIf_mk ⟨fun a _ => by simp [encInt], by omega⟩ ?_
  simp [hS.P, AH.nx_put, o1, o2, o3]
  have f2 : H.get (H.nx + 1 + 1) = .free := f 2
  have f3 : H.get (H.nx + 1 + 1 + 1) = .free := f 3
  have f4 : H.get (H.nx + 1 + 1 + 1 + 1) = .free := f 4
  refine Leave.stay ⟨rfl, ?_, ?_, ?_, put_keeps (f 1) (put_keeps (f 0) (put_keeps f4 (put_keeps (f 0) (put_keeps f3 (put_keeps (f 0) (put_keeps f2 (put_keeps (f 1) (put_keeps (f 0) (keeps_refl H)))))))))⟩
  · simp
  · simp
  · simp
/-! ### The plan that has grown -/
def growP (y : PlanD) : Nat → PlanD
  | 0 => { y with pages := y.pages ++ [⟨0, []⟩] }
  | 1 => { y with procs := y.procs ++ [⟨0, 0, false⟩] }
  | 2 => { y with events := y.events + 1 }
  | _ => { y with sems := y.sems ++ [255] }
def growB : Nat → Int
  | 0 => 68
  | 1 => 76
  | _ => 1
def growR (y : PlanD) : Nat → Bool
  | 0 => decide (y.pages.length < 32)
  | 1 => decide (y.procs.length < 8)
  | 2 => decide (y.events < 8)
  | _ => decide (y.sems.length < 8)
theorem grow_bound (y : PlanD) (k : Nat) : boundI (growP y k) = boundI y + growB k := by
  rcases k with _ | _ | _ | k <;> simp [growP, growB, boundI] <;> omega
theorem firstBad_zero {A : Type} {f : A → Nat} : ∀ (l : List A) (i : Nat), (∀ x ∈ l, f x = 0) → firstBad f l i = .none
  | [], _, _ => rfl
  | a :: l, i, h => by
    unfold firstBad
    rw [if_pos (h a (List.mem_cons_self ..))]
    exact firstBad_zero l _ fun x hx => h x (List.mem_cons_of_mem _ hx)
theorem plan_in {p : PlanD} (h : PlanIn p) : planE p = .none := by
  have e1 : idE p = .none := by unfold idE; have := h.id; rw [if_neg (by omega)]
  have e2 : pagesE p = .none := by
    unfold pagesE; have := h.pages; rw [if_neg (by omega)]
    refine firstBad_zero _ _ fun x hx => ?_
    have := h.page x hx
    unfold PageD.bad; rw [if_neg (by omega), if_neg (by omega)]
  have e3 : procsE p = .none := by
    unfold procsE; have := h.procs; rw [if_neg (by omega)]
    refine firstBad_zero _ _ fun x hx => ?_
    obtain ⟨h1, h2, h3, h4, h5⟩ := h.proc x hx
    unfold ProcD.bad; rw [if_neg]; rintro (h | h | h | h | h) <;> omega
  have e4 : portsE p = .none := by
    unfold portsE; have := h.ports; rw [if_neg (by omega)]
    refine firstBad_zero _ _ fun x hx => ?_
    unfold PortD.bad; rw [h.port x hx]
  have e5 : semsE p = .none := by
    unfold semsE; have := h.events; have := h.sems; rw [if_neg (by omega), if_neg (by omega)]
    refine firstBad_zero _ _ fun x hx => ?_
    have := h.sem x hx
    unfold semBad; rw [if_neg (by omega)]
  have e6 : boundE p = .none := by unfold boundE; have := h.bound; rw [if_neg (by omega)]
  unfold planE restE
  rw [e1, e2, e3, e4, e5, e6]; rfl
theorem grow_ok {y : PlanD} (h : PlanIn y) (k : Nat) : planE (growP y k) = .none ↔ (growR y k = true ∧ boundI y + growB k ≤ 4096) := by
  rw [← grow_bound]
  constructor
  · intro hg
    have hi := planIn hg
    refine ⟨?_, hi.bound⟩
    have a1 := hi.pages; have a2 := hi.procs; have a3 := hi.events; have a4 := hi.sems
    rcases k with _ | _ | _ | k <;> simp [growP, growR] at a1 a2 a3 a4 ⊢ <;> omega
  · rintro ⟨h1, h2⟩
    refine plan_in ?_
    have a0 := h.pages; have a1 := h.procs; have a2 := h.ports; have a3 := h.events; have a4 := h.sems; have a5 := h.id
    rcases k with _ | _ | _ | k <;> simp [growR] at h1
    · refine ⟨by simp [growP]; omega, fun x hx => ?_, a1, fun x hx => ?_, a2, h.port, a3, a4, h.sem, a5, h2⟩
      · rcases List.mem_append.1 hx with hx | hx
        · exact h.page x hx
        · rw [List.mem_singleton.1 hx]; simp
      · have := h.proc x hx
        simp [growP]; omega
    · refine ⟨a0, h.page, by simp [growP]; omega, fun x hx => ?_, a2, h.port, a3, a4, h.sem, a5, h2⟩
      rcases List.mem_append.1 hx with hx | hx
      · exact h.proc x hx
      · rw [List.mem_singleton.1 hx]; simp [growP]; omega
    · exact ⟨a0, h.page, a1, h.proc, a2, h.port, by simp [growP]; omega, a4, h.sem, a5, h2⟩
    · refine ⟨a0, h.page, a1, h.proc, a2, h.port, a3, by simp [growP]; omega, fun x hx => ?_, a5, h2⟩
      rcases List.mem_append.1 hx with hx | hx
      · exact h.sem x hx
      · rw [List.mem_singleton.1 hx]; simp
end Go.Proofs.YtndoembhbfiokaaDoor.Am
set_option linter.unusedVariables false
set_option linter.unusedSimpArgs false
namespace Go.Proofs.YtndoembhbfiokaaDoor.Am
open Go.RowKit Go.Proofs

theorem growP_small {y : PlanD} (h : PlanIn y) (k : Nat) : (growP y k).Small := by
  have a0 := h.pages; have a1 := h.procs; have a2 := h.ports; have a4 := h.sems
  rcases k with _ | _ | _ | k <;> refine ⟨?_, ?_, ?_, ?_⟩ <;> simp [growP] <;> omega
theorem bound_pos (y : PlanD) (h : PlanIn y) : 0 ≤ boundI y := by
  have := portSum_le y.ports; have := h.events; unfold boundI; omega
def planV (i : Int) (mo : Bool) (P R O : AV) (ev : Int) (S : AV) : AV := .agg [.int .i64 i, .bool mo, P, R, O, .int .i64 ev, S]
theorem frz3 {X : Ctx} {H : AH} {f : FuncId} {Q : AV → AH → Prop} {a b c va vb vc la lb lc : Nat} {P R S : List AV} {i ev : Int} {mo : Bool} {O : AV} (ha : H.get a = .row P 2 va) (hb : H.get b = .row R 3 vb) (hc : H.get c = .row S 1 vc)
    (hab : a ≠ b) (hac : a ≠ c) (hbc : b ≠ c) (hla : la = P.length) (hlb : lb = R.length) (hlc : lc = S.length)
    (h : ACalls X f [planV i mo (.fsl P) (.fsl R) O ev (.fsl S)] (((H.put a .dead).put b .dead).put c .dead) Q) : ACalls X f [planV i mo (.sl a va 0 la) (.sl b vb 0 lb) O ev (.sl c vc 0 lc)] H Q := by
  subst hla hlb hlc
  refine ACalls.frz a va 2 P [planV i mo (.fsl P) (.sl b vb 0 R.length) O ev (.sl c vc 0 S.length)] ha ⟨.agg _ _ rfl fun j u v k1 k2 => ?_, trivial⟩ ?_
  · rcases j with _ | _ | _ | _ | _ | _ | _ | j <;> simp at k1 k2 <;> subst k1 k2 <;> first | exact .refl _ | exact Frz.all rfl
  refine ACalls.frz b vb 3 R [planV i mo (.fsl P) (.fsl R) O ev (.sl c vc 0 S.length)] (by rw [AH.put_ne _ _ (Ne.symm hab)]; exact hb) ⟨.agg _ _ rfl fun j u v k1 k2 => ?_, trivial⟩ ?_
  · rcases j with _ | _ | _ | _ | _ | _ | _ | j <;> simp at k1 k2 <;> subst k1 k2 <;> first | exact .refl _ | exact Frz.all rfl
  refine ACalls.frz c vc 1 S [planV i mo (.fsl P) (.fsl R) O ev (.fsl S)] (by rw [AH.put_ne _ _ (Ne.symm hbc), AH.put_ne _ _ (Ne.symm hac)]; exact hc) ⟨.agg _ _ rfl fun j u v k1 k2 => ?_, trivial⟩ h
  rcases j with _ | _ | _ | _ | _ | _ | _ | j <;> simp at k1 k2 <;> subst k1 k2 <;> first | exact .refl _ | exact Frz.all rfl
set_option maxRecDepth 8000 in
set_option maxHeartbeats 4000000 in
theorem planGrows_spec {X : Ctx} (hS : Sent X) (x : CaseD10) (hx : x.Small) : ACalc X 5 [encCase10 x] (.bool true) := by
  intro H
  refine acalls' (N := 127) (rs := [.tmp 2]) [] (by rw [hS.P]; exact Tryd.func5) rfl rfl rfl (by decide) (by simp) ?_
  have f1 : H.get (H.nx + 1) = .free := AH.free_add H 1
  simp [entryR, hS.P]
  refine (fixed10_spec hS).go ?_
  simp [hS.P]
  refine (planCopy_spec hS x.p hx.p).go ?_
  simp [hS.P]
  refine (rgood_spec hS x.p hx.p).go ?_
  simp [hS.P]
  by_cases hyE : planE x.p = .none
  · have hys := hx.p
    generalize hy0 : x.p = y at hyE hys ⊢
    simp [hS.P, hyE]
    generalize hK : (AH.put _ (H.nx + 1) _) = K
    have g1 : K.get (H.nx + 1) = .row [encPlan y] 7 0 := by rw [← hK]; simp; rfl
    have hk : ∀ i, H.get i ≠ .free → K.get i = H.get i := by rw [← hK]; first | exact put_keeps f1 (put_keeps (AH.fresh H) (keeps_refl H)) | exact put_keeps f1 (put_keeps f1 (put_keeps (AH.fresh H) (keeps_refl H)))
    clear hK
    have hin := planIn hyE
    have hbd := hin.bound
    have hb0 := bound_pos y hin
    try simp [hS.P, g1]
    refine (planCopy_spec hS y hys).go ?_
    simp [hS.P]
    refine (planBound_spec hS y hys).go ?_
    simp [hS.P, planErr, boundAns, hyE, encErr, show ¬ 4096 < boundI y by omega]
    refine AWp.loop (S := Nat × AH) (fun s => s.1 ≤ 4 ∧ s.2.get (H.nx + 1) = .row [encPlan y] 7 0 ∧ ∀ i, H.get i ≠ .free → s.2.get i = H.get i)
      (fun s => [(3, .ptr (H.nx + 1) 0 0 0), (4, .int .i64 (boundI y)), (6, .csl [.int .i64 68, .int .i64 76, .int .i64 1, .int .i64 1]), (7, .int .i64 s.1)])
      (fun s => s.2) (fun s => 4 - s.1) (0, K) ⟨Nat.zero_le _, g1, hk⟩ (Wk.regs (by simp)) fun s hs => ?_
    clear g1 hk K
    obtain ⟨n, K⟩ := s
    obtain ⟨hn, g1, hk⟩ := hs
    simp only at hn g1 hk
    refine aC_sound (lv := []) _ _ _ _ ?_
    simp [hS.P]
    refine aCond_dec (fun hlt => ?_) (fun hge => ?_)
    · simp [hS.P, g1]
      refine (planCopy_live hS y hys K).mono ?_
      rintro v K1 ⟨rfl, r2, r3, r4, hk1⟩
      have g2 : K1.get (H.nx + 1) = .row [encPlan y] 7 0 := by rw [hk1 _ (by rw [g1]; simp)]; exact g1
      have hk2 : ∀ i, H.get i ≠ .free → K1.get i = H.get i := fun i hi => by rw [hk1 _ (by rw [hk i hi]; exact hi), hk i hi]
      have m1 := AH.lt_nx (AH.ne_free g1)
      have m2 := AH.lt_nx (AH.ne_free r2)
      have m3 := AH.lt_nx (AH.ne_free r3)
      have m4 := AH.lt_nx (AH.ne_free r4)
      have hf2 : H.get (K.nx + 2) = .free := Classical.byContradiction fun h => by have := hk _ h; rw [AH.free_add K 2] at this; exact h this.symm
      have hf3 : H.get (K.nx + 3) = .free := Classical.byContradiction fun h => by have := hk _ h; rw [AH.free_add K 3] at this; exact h this.symm
      have hf4 : H.get (K.nx + 4) = .free := Classical.byContradiction fun h => by have := hk _ h; rw [AH.free_add K 4] at this; exact h this.symm
      have hf5 := keepsNx hk2
      simp [hS.P, copyV]
      generalize K.nx = m at *
      generalize hm5 : K1.nx = t8 at *
      clear hk1 hk g1 K
      have e0 : H.nx + 1 ≠ t8 := by omega
      have e2 : m + 2 ≠ t8 := by omega
      have e3 : m + 3 ≠ t8 := by omega
      have e4 : m + 4 ≠ t8 := by omega
      have hev := hin.events; have hl1 := hin.pages; have hl2 := hin.procs; have hl3 := hin.sems
      have d2 : H.nx + 1 ≠ m + 2 := by omega
      have d3 : H.nx + 1 ≠ m + 3 := by omega
      have d4 : H.nx + 1 ≠ m + 4 := by omega
      obtain ⟨T, v, hT⟩ := encErr_iface (e := .bare 8) (by simp)
      have wk : IntKind.i64.wrap 1 = 1 ∧ IntKind.i64.wrap 2 = 2 ∧ IntKind.i64.wrap 3 = 3 ∧ IntKind.i64.wrap 4 = 4 := ⟨wrap64 (by omega) (by omega), wrap64 (by omega) (by omega), wrap64 (by omega) (by omega), wrap64 (by omega) (by omega)⟩
      have wv : IntKind.i64.wrap (y.events + 1) = y.events + 1 := wrap64 (by omega) (by omega)
      rcases n with _ | _ | _ | _ | n
      · simp [hS.P, r2, r3, r4, e0, e2, e3, e4, e0.symm, e2.symm, e3.symm, e4.symm]
        refine aIf_mk (by omega) ?_
        simp [hS.P, r2, r3, r4, e0, e2, e3, e4, e0.symm, e2.symm, e3.symm, e4.symm]
        refine frz3 (P := (growP y 0).pages.map encPage) (R := (growP y 0).procs.map encProc) (S := (growP y 0).sems.map encInt) (by simp [growP, r2, encPage, e0, e2, e3, e4, e0.symm, e2.symm, e3.symm, e4.symm]) (by simp [growP, r3, encProc, e0, e2, e3, e4, e0.symm, e2.symm, e3.symm, e4.symm]) (by simp [growP, r4, encInt, e0, e2, e3, e4, e0.symm, e2.symm, e3.symm, e4.symm]) (by omega) (by omega) (by omega) (by simp [growP]) (by simp [growP]) (by simp [growP]) ?_
        refine (planBound_spec hS (growP y 0) (growP_small hin 0) _).mono ?_
        rintro _ _ ⟨rfl, rfl⟩
        by_cases hr : (y.pages.length : Int) < 32
        · by_cases hs : boundI y + 68 ≤ 4096
          · have hE : planE (growP y 0) = .none := (grow_ok hin 0).2 ⟨by simp [growR]; omega, by simp only [growB]; omega⟩
            have hb : boundI (growP y 0) = boundI y + 68 := grow_bound y 0
            have hw : IntKind.i64.wrap (boundI y + 68) = boundI y + 68 := wrap64 (by omega) (by omega)
            simp [hS.P, hr, hs, hE, hb, hw, planErr, boundAns, encErr]
            refine ⟨0 + 1, _, ⟨by omega, ?_, ?_⟩, by omega, Wk.regs (by simp [wk])⟩
            · repeat (first | exact g2 | refine (AH.put_ne _ _ (by assumption)).trans ?_)
            · repeat (first | exact hk2 | refine put_keeps (by assumption) ?_)
          · have hE : ¬ planE (growP y 0) = .none := fun h => by have := ((grow_ok hin 0).1 h).2; simp only [growB] at this; omega
            have hw : IntKind.i64.wrap (boundI y + 68) = boundI y + 68 := wrap64 (by omega) (by omega)
            simp [hS.P, hr, hs, hw, hE, planErr, boundAns, hT]
            rw [← hT]
            refine (same10_spec hS (.bare 8) (by simp [PE.Ok]) 8).go ?_
            simp [hS.P, PE.code, PE.place, show codeG 8 = 8 from rfl]
            refine ⟨0 + 1, _, ⟨by omega, ?_, ?_⟩, by omega, Wk.regs (by simp [wk])⟩
            · repeat (first | exact g2 | refine (AH.put_ne _ _ (by assumption)).trans ?_)
            · repeat (first | exact hk2 | refine put_keeps (by assumption) ?_)
        · have hE : ¬ planE (growP y 0) = .none := fun h => by have := ((grow_ok hin 0).1 h).1; simp [growR] at this; omega
          simp [hS.P, hr, hE, planErr, boundAns, hT]
          rw [← hT]
          refine (same10_spec hS (.bare 8) (by simp [PE.Ok]) 8).go ?_
          simp [hS.P, PE.code, PE.place, show codeG 8 = 8 from rfl]
          refine ⟨0 + 1, _, ⟨by omega, ?_, ?_⟩, by omega, Wk.regs (by simp [wk])⟩
          · repeat (first | exact g2 | refine (AH.put_ne _ _ (by assumption)).trans ?_)
          · repeat (first | exact hk2 | refine put_keeps (by assumption) ?_)
      · simp [hS.P, r2, r3, r4, e0, e2, e3, e4, e0.symm, e2.symm, e3.symm, e4.symm]
        refine aIf_mk (by omega) ?_
        simp [hS.P, r2, r3, r4, e0, e2, e3, e4, e0.symm, e2.symm, e3.symm, e4.symm]
        refine frz3 (P := (growP y 1).pages.map encPage) (R := (growP y 1).procs.map encProc) (S := (growP y 1).sems.map encInt) (by simp [growP, r2, encPage, e0, e2, e3, e4, e0.symm, e2.symm, e3.symm, e4.symm]) (by simp [growP, r3, encProc, e0, e2, e3, e4, e0.symm, e2.symm, e3.symm, e4.symm]) (by simp [growP, r4, encInt, e0, e2, e3, e4, e0.symm, e2.symm, e3.symm, e4.symm]) (by omega) (by omega) (by omega) (by simp [growP]) (by simp [growP]) (by simp [growP]) ?_
        refine (planBound_spec hS (growP y 1) (growP_small hin 1) _).mono ?_
        rintro _ _ ⟨rfl, rfl⟩
        by_cases hr : (y.procs.length : Int) < 8
        · by_cases hs : boundI y + 76 ≤ 4096
          · have hE : planE (growP y 1) = .none := (grow_ok hin 1).2 ⟨by simp [growR]; omega, by simp only [growB]; omega⟩
            have hb : boundI (growP y 1) = boundI y + 76 := grow_bound y 1
            have hw : IntKind.i64.wrap (boundI y + 76) = boundI y + 76 := wrap64 (by omega) (by omega)
            simp [hS.P, hr, hs, hE, hb, hw, planErr, boundAns, encErr]
            refine ⟨1 + 1, _, ⟨by omega, ?_, ?_⟩, by omega, Wk.regs (by simp [wk])⟩
            · repeat (first | exact g2 | refine (AH.put_ne _ _ (by assumption)).trans ?_)
            · repeat (first | exact hk2 | refine put_keeps (by assumption) ?_)
          · have hE : ¬ planE (growP y 1) = .none := fun h => by have := ((grow_ok hin 1).1 h).2; simp only [growB] at this; omega
            have hw : IntKind.i64.wrap (boundI y + 76) = boundI y + 76 := wrap64 (by omega) (by omega)
            simp [hS.P, hr, hs, hw, hE, planErr, boundAns, hT]
            rw [← hT]
            refine (same10_spec hS (.bare 8) (by simp [PE.Ok]) 8).go ?_
            simp [hS.P, PE.code, PE.place, show codeG 8 = 8 from rfl]
            refine ⟨1 + 1, _, ⟨by omega, ?_, ?_⟩, by omega, Wk.regs (by simp [wk])⟩
            · repeat (first | exact g2 | refine (AH.put_ne _ _ (by assumption)).trans ?_)
            · repeat (first | exact hk2 | refine put_keeps (by assumption) ?_)
        · have hE : ¬ planE (growP y 1) = .none := fun h => by have := ((grow_ok hin 1).1 h).1; simp [growR] at this; omega
          simp [hS.P, hr, hE, planErr, boundAns, hT]
          rw [← hT]
          refine (same10_spec hS (.bare 8) (by simp [PE.Ok]) 8).go ?_
          simp [hS.P, PE.code, PE.place, show codeG 8 = 8 from rfl]
          refine ⟨1 + 1, _, ⟨by omega, ?_, ?_⟩, by omega, Wk.regs (by simp [wk])⟩
          · repeat (first | exact g2 | refine (AH.put_ne _ _ (by assumption)).trans ?_)
          · repeat (first | exact hk2 | refine put_keeps (by assumption) ?_)
      · simp [hS.P, r2, r3, r4, e0, e2, e3, e4, e0.symm, e2.symm, e3.symm, e4.symm, wv]
        refine frz3 (P := (growP y 2).pages.map encPage) (R := (growP y 2).procs.map encProc) (S := (growP y 2).sems.map encInt) (by simp [growP, r2, encPage, e0, e2, e3, e4, e0.symm, e2.symm, e3.symm, e4.symm]) (by simp [growP, r3, encProc, e0, e2, e3, e4, e0.symm, e2.symm, e3.symm, e4.symm]) (by simp [growP, r4, encInt, e0, e2, e3, e4, e0.symm, e2.symm, e3.symm, e4.symm]) (by omega) (by omega) (by omega) (by simp [growP]) (by simp [growP]) (by simp [growP]) ?_
        refine (planBound_spec hS (growP y 2) (growP_small hin 2) _).mono ?_
        rintro _ _ ⟨rfl, rfl⟩
        by_cases hr : y.events < 8
        · by_cases hs : boundI y + 1 ≤ 4096
          · have hE : planE (growP y 2) = .none := (grow_ok hin 2).2 ⟨by simp [growR]; omega, by simp only [growB]; omega⟩
            have hb : boundI (growP y 2) = boundI y + 1 := grow_bound y 2
            have hw : IntKind.i64.wrap (boundI y + 1) = boundI y + 1 := wrap64 (by omega) (by omega)
            simp [hS.P, hr, hs, hE, hb, hw, planErr, boundAns, encErr]
            refine ⟨2 + 1, _, ⟨by omega, ?_, ?_⟩, by omega, Wk.regs (by simp [wk])⟩
            · repeat (first | exact g2 | refine (AH.put_ne _ _ (by assumption)).trans ?_)
            · repeat (first | exact hk2 | refine put_keeps (by assumption) ?_)
          · have hE : ¬ planE (growP y 2) = .none := fun h => by have := ((grow_ok hin 2).1 h).2; simp only [growB] at this; omega
            have hw : IntKind.i64.wrap (boundI y + 1) = boundI y + 1 := wrap64 (by omega) (by omega)
            simp [hS.P, hr, hs, hw, hE, planErr, boundAns, hT]
            rw [← hT]
            refine (same10_spec hS (.bare 8) (by simp [PE.Ok]) 8).go ?_
            simp [hS.P, PE.code, PE.place, show codeG 8 = 8 from rfl]
            refine ⟨2 + 1, _, ⟨by omega, ?_, ?_⟩, by omega, Wk.regs (by simp [wk])⟩
            · repeat (first | exact g2 | refine (AH.put_ne _ _ (by assumption)).trans ?_)
            · repeat (first | exact hk2 | refine put_keeps (by assumption) ?_)
        · have hE : ¬ planE (growP y 2) = .none := fun h => by have := ((grow_ok hin 2).1 h).1; simp [growR] at this; omega
          simp [hS.P, hr, hE, planErr, boundAns, hT]
          rw [← hT]
          refine (same10_spec hS (.bare 8) (by simp [PE.Ok]) 8).go ?_
          simp [hS.P, PE.code, PE.place, show codeG 8 = 8 from rfl]
          refine ⟨2 + 1, _, ⟨by omega, ?_, ?_⟩, by omega, Wk.regs (by simp [wk])⟩
          · repeat (first | exact g2 | refine (AH.put_ne _ _ (by assumption)).trans ?_)
          · repeat (first | exact hk2 | refine put_keeps (by assumption) ?_)
      · simp [hS.P, r2, r3, r4, e0, e2, e3, e4, e0.symm, e2.symm, e3.symm, e4.symm]
        refine aIf_mk (by omega) ?_
        simp [hS.P, r2, r3, r4, e0, e2, e3, e4, e0.symm, e2.symm, e3.symm, e4.symm]
        refine frz3 (P := (growP y 3).pages.map encPage) (R := (growP y 3).procs.map encProc) (S := (growP y 3).sems.map encInt) (by simp [growP, r2, encPage, e0, e2, e3, e4, e0.symm, e2.symm, e3.symm, e4.symm]) (by simp [growP, r3, encProc, e0, e2, e3, e4, e0.symm, e2.symm, e3.symm, e4.symm]) (by simp [growP, r4, encInt, e0, e2, e3, e4, e0.symm, e2.symm, e3.symm, e4.symm]) (by omega) (by omega) (by omega) (by simp [growP]) (by simp [growP]) (by simp [growP]) ?_
        refine (planBound_spec hS (growP y 3) (growP_small hin 3) _).mono ?_
        rintro _ _ ⟨rfl, rfl⟩
        by_cases hr : (y.sems.length : Int) < 8
        · by_cases hs : boundI y + 1 ≤ 4096
          · have hE : planE (growP y 3) = .none := (grow_ok hin 3).2 ⟨by simp [growR]; omega, by simp only [growB]; omega⟩
            have hb : boundI (growP y 3) = boundI y + 1 := grow_bound y 3
            have hw : IntKind.i64.wrap (boundI y + 1) = boundI y + 1 := wrap64 (by omega) (by omega)
            simp [hS.P, hr, hs, hE, hb, hw, planErr, boundAns, encErr]
            refine ⟨3 + 1, _, ⟨by omega, ?_, ?_⟩, by omega, Wk.regs (by simp [wk])⟩
            · repeat (first | exact g2 | refine (AH.put_ne _ _ (by assumption)).trans ?_)
            · repeat (first | exact hk2 | refine put_keeps (by assumption) ?_)
          · have hE : ¬ planE (growP y 3) = .none := fun h => by have := ((grow_ok hin 3).1 h).2; simp only [growB] at this; omega
            have hw : IntKind.i64.wrap (boundI y + 1) = boundI y + 1 := wrap64 (by omega) (by omega)
            simp [hS.P, hr, hs, hw, hE, planErr, boundAns, hT]
            rw [← hT]
            refine (same10_spec hS (.bare 8) (by simp [PE.Ok]) 8).go ?_
            simp [hS.P, PE.code, PE.place, show codeG 8 = 8 from rfl]
            refine ⟨3 + 1, _, ⟨by omega, ?_, ?_⟩, by omega, Wk.regs (by simp [wk])⟩
            · repeat (first | exact g2 | refine (AH.put_ne _ _ (by assumption)).trans ?_)
            · repeat (first | exact hk2 | refine put_keeps (by assumption) ?_)
        · have hE : ¬ planE (growP y 3) = .none := fun h => by have := ((grow_ok hin 3).1 h).1; simp [growR] at this; omega
          simp [hS.P, hr, hE, planErr, boundAns, hT]
          rw [← hT]
          refine (same10_spec hS (.bare 8) (by simp [PE.Ok]) 8).go ?_
          simp [hS.P, PE.code, PE.place, show codeG 8 = 8 from rfl]
          refine ⟨3 + 1, _, ⟨by omega, ?_, ?_⟩, by omega, Wk.regs (by simp [wk])⟩
          · repeat (first | exact g2 | refine (AH.put_ne _ _ (by assumption)).trans ?_)
          · repeat (first | exact hk2 | refine put_keeps (by assumption) ?_)
      · omega
    · simp [hS.P]
      exact Leave.data hk (by simp) ⟨rfl, rfl⟩
  · simp [hS.P, hyE]
    refine (small10_spec hS).go ?_
    simp [hS.P]
    have hyE := small10_ok
    have hys := small10_small
    generalize small10 = y at hyE hys ⊢
    generalize hK : (AH.put _ (H.nx + 1) _) = K
    have g1 : K.get (H.nx + 1) = .row [encPlan y] 7 0 := by rw [← hK]; simp; rfl
    have hk : ∀ i, H.get i ≠ .free → K.get i = H.get i := by rw [← hK]; first | exact put_keeps f1 (put_keeps (AH.fresh H) (keeps_refl H)) | exact put_keeps f1 (put_keeps f1 (put_keeps (AH.fresh H) (keeps_refl H)))
    clear hK
    have hin := planIn hyE
    have hbd := hin.bound
    have hb0 := bound_pos y hin
    try simp [hS.P, g1]
    refine (planCopy_spec hS y hys).go ?_
    simp [hS.P]
    refine (planBound_spec hS y hys).go ?_
    simp [hS.P, planErr, boundAns, hyE, encErr, show ¬ 4096 < boundI y by omega]
    refine AWp.loop (S := Nat × AH) (fun s => s.1 ≤ 4 ∧ s.2.get (H.nx + 1) = .row [encPlan y] 7 0 ∧ ∀ i, H.get i ≠ .free → s.2.get i = H.get i)
      (fun s => [(3, .ptr (H.nx + 1) 0 0 0), (4, .int .i64 (boundI y)), (6, .csl [.int .i64 68, .int .i64 76, .int .i64 1, .int .i64 1]), (7, .int .i64 s.1)])
      (fun s => s.2) (fun s => 4 - s.1) (0, K) ⟨Nat.zero_le _, g1, hk⟩ (Wk.regs (by simp)) fun s hs => ?_
    clear g1 hk K
    obtain ⟨n, K⟩ := s
    obtain ⟨hn, g1, hk⟩ := hs
    simp only at hn g1 hk
    refine aC_sound (lv := []) _ _ _ _ ?_
    simp [hS.P]
    refine aCond_dec (fun hlt => ?_) (fun hge => ?_)
    · simp [hS.P, g1]
      refine (planCopy_live hS y hys K).mono ?_
      rintro v K1 ⟨rfl, r2, r3, r4, hk1⟩
      have g2 : K1.get (H.nx + 1) = .row [encPlan y] 7 0 := by rw [hk1 _ (by rw [g1]; simp)]; exact g1
      have hk2 : ∀ i, H.get i ≠ .free → K1.get i = H.get i := fun i hi => by rw [hk1 _ (by rw [hk i hi]; exact hi), hk i hi]
      have m1 := AH.lt_nx (AH.ne_free g1)
      have m2 := AH.lt_nx (AH.ne_free r2)
      have m3 := AH.lt_nx (AH.ne_free r3)
      have m4 := AH.lt_nx (AH.ne_free r4)
      have hf2 : H.get (K.nx + 2) = .free := Classical.byContradiction fun h => by have := hk _ h; rw [AH.free_add K 2] at this; exact h this.symm
      have hf3 : H.get (K.nx + 3) = .free := Classical.byContradiction fun h => by have := hk _ h; rw [AH.free_add K 3] at this; exact h this.symm
      have hf4 : H.get (K.nx + 4) = .free := Classical.byContradiction fun h => by have := hk _ h; rw [AH.free_add K 4] at this; exact h this.symm
      have hf5 := keepsNx hk2
      simp [hS.P, copyV]
      generalize K.nx = m at *
      generalize hm5 : K1.nx = t8 at *
      clear hk1 hk g1 K
      have e0 : H.nx + 1 ≠ t8 := by omega
      have e2 : m + 2 ≠ t8 := by omega
      have e3 : m + 3 ≠ t8 := by omega
      have e4 : m + 4 ≠ t8 := by omega
      have hev := hin.events; have hl1 := hin.pages; have hl2 := hin.procs; have hl3 := hin.sems
      have d2 : H.nx + 1 ≠ m + 2 := by omega
      have d3 : H.nx + 1 ≠ m + 3 := by omega
      have d4 : H.nx + 1 ≠ m + 4 := by omega
      obtain ⟨T, v, hT⟩ := encErr_iface (e := .bare 8) (by simp)
      have wk : IntKind.i64.wrap 1 = 1 ∧ IntKind.i64.wrap 2 = 2 ∧ IntKind.i64.wrap 3 = 3 ∧ IntKind.i64.wrap 4 = 4 := ⟨wrap64 (by omega) (by omega), wrap64 (by omega) (by omega), wrap64 (by omega) (by omega), wrap64 (by omega) (by omega)⟩
      have wv : IntKind.i64.wrap (y.events + 1) = y.events + 1 := wrap64 (by omega) (by omega)
      rcases n with _ | _ | _ | _ | n
      · simp [hS.P, r2, r3, r4, e0, e2, e3, e4, e0.symm, e2.symm, e3.symm, e4.symm]
        refine aIf_mk (by omega) ?_
        simp [hS.P, r2, r3, r4, e0, e2, e3, e4, e0.symm, e2.symm, e3.symm, e4.symm]
        refine frz3 (P := (growP y 0).pages.map encPage) (R := (growP y 0).procs.map encProc) (S := (growP y 0).sems.map encInt) (by simp [growP, r2, encPage, e0, e2, e3, e4, e0.symm, e2.symm, e3.symm, e4.symm]) (by simp [growP, r3, encProc, e0, e2, e3, e4, e0.symm, e2.symm, e3.symm, e4.symm]) (by simp [growP, r4, encInt, e0, e2, e3, e4, e0.symm, e2.symm, e3.symm, e4.symm]) (by omega) (by omega) (by omega) (by simp [growP]) (by simp [growP]) (by simp [growP]) ?_
        refine (planBound_spec hS (growP y 0) (growP_small hin 0) _).mono ?_
        rintro _ _ ⟨rfl, rfl⟩
        by_cases hr : (y.pages.length : Int) < 32
        · by_cases hs : boundI y + 68 ≤ 4096
          · have hE : planE (growP y 0) = .none := (grow_ok hin 0).2 ⟨by simp [growR]; omega, by simp only [growB]; omega⟩
            have hb : boundI (growP y 0) = boundI y + 68 := grow_bound y 0
            have hw : IntKind.i64.wrap (boundI y + 68) = boundI y + 68 := wrap64 (by omega) (by omega)
            simp [hS.P, hr, hs, hE, hb, hw, planErr, boundAns, encErr]
            refine ⟨0 + 1, _, ⟨by omega, ?_, ?_⟩, by omega, Wk.regs (by simp [wk])⟩
            · repeat (first | exact g2 | refine (AH.put_ne _ _ (by assumption)).trans ?_)
            · repeat (first | exact hk2 | refine put_keeps (by assumption) ?_)
          · have hE : ¬ planE (growP y 0) = .none := fun h => by have := ((grow_ok hin 0).1 h).2; simp only [growB] at this; omega
            have hw : IntKind.i64.wrap (boundI y + 68) = boundI y + 68 := wrap64 (by omega) (by omega)
            simp [hS.P, hr, hs, hw, hE, planErr, boundAns, hT]
            rw [← hT]
            refine (same10_spec hS (.bare 8) (by simp [PE.Ok]) 8).go ?_
            simp [hS.P, PE.code, PE.place, show codeG 8 = 8 from rfl]
            refine ⟨0 + 1, _, ⟨by omega, ?_, ?_⟩, by omega, Wk.regs (by simp [wk])⟩
            · repeat (first | exact g2 | refine (AH.put_ne _ _ (by assumption)).trans ?_)
            · repeat (first | exact hk2 | refine put_keeps (by assumption) ?_)
        · have hE : ¬ planE (growP y 0) = .none := fun h => by have := ((grow_ok hin 0).1 h).1; simp [growR] at this; omega
          simp [hS.P, hr, hE, planErr, boundAns, hT]
          rw [← hT]
          refine (same10_spec hS (.bare 8) (by simp [PE.Ok]) 8).go ?_
          simp [hS.P, PE.code, PE.place, show codeG 8 = 8 from rfl]
          refine ⟨0 + 1, _, ⟨by omega, ?_, ?_⟩, by omega, Wk.regs (by simp [wk])⟩
          · repeat (first | exact g2 | refine (AH.put_ne _ _ (by assumption)).trans ?_)
          · repeat (first | exact hk2 | refine put_keeps (by assumption) ?_)
      · simp [hS.P, r2, r3, r4, e0, e2, e3, e4, e0.symm, e2.symm, e3.symm, e4.symm]
        refine aIf_mk (by omega) ?_
        simp [hS.P, r2, r3, r4, e0, e2, e3, e4, e0.symm, e2.symm, e3.symm, e4.symm]
        refine frz3 (P := (growP y 1).pages.map encPage) (R := (growP y 1).procs.map encProc) (S := (growP y 1).sems.map encInt) (by simp [growP, r2, encPage, e0, e2, e3, e4, e0.symm, e2.symm, e3.symm, e4.symm]) (by simp [growP, r3, encProc, e0, e2, e3, e4, e0.symm, e2.symm, e3.symm, e4.symm]) (by simp [growP, r4, encInt, e0, e2, e3, e4, e0.symm, e2.symm, e3.symm, e4.symm]) (by omega) (by omega) (by omega) (by simp [growP]) (by simp [growP]) (by simp [growP]) ?_
        refine (planBound_spec hS (growP y 1) (growP_small hin 1) _).mono ?_
        rintro _ _ ⟨rfl, rfl⟩
        by_cases hr : (y.procs.length : Int) < 8
        · by_cases hs : boundI y + 76 ≤ 4096
          · have hE : planE (growP y 1) = .none := (grow_ok hin 1).2 ⟨by simp [growR]; omega, by simp only [growB]; omega⟩
            have hb : boundI (growP y 1) = boundI y + 76 := grow_bound y 1
            have hw : IntKind.i64.wrap (boundI y + 76) = boundI y + 76 := wrap64 (by omega) (by omega)
            simp [hS.P, hr, hs, hE, hb, hw, planErr, boundAns, encErr]
            refine ⟨1 + 1, _, ⟨by omega, ?_, ?_⟩, by omega, Wk.regs (by simp [wk])⟩
            · repeat (first | exact g2 | refine (AH.put_ne _ _ (by assumption)).trans ?_)
            · repeat (first | exact hk2 | refine put_keeps (by assumption) ?_)
          · have hE : ¬ planE (growP y 1) = .none := fun h => by have := ((grow_ok hin 1).1 h).2; simp only [growB] at this; omega
            have hw : IntKind.i64.wrap (boundI y + 76) = boundI y + 76 := wrap64 (by omega) (by omega)
            simp [hS.P, hr, hs, hw, hE, planErr, boundAns, hT]
            rw [← hT]
            refine (same10_spec hS (.bare 8) (by simp [PE.Ok]) 8).go ?_
            simp [hS.P, PE.code, PE.place, show codeG 8 = 8 from rfl]
            refine ⟨1 + 1, _, ⟨by omega, ?_, ?_⟩, by omega, Wk.regs (by simp [wk])⟩
            · repeat (first | exact g2 | refine (AH.put_ne _ _ (by assumption)).trans ?_)
            · repeat (first | exact hk2 | refine put_keeps (by assumption) ?_)
        · have hE : ¬ planE (growP y 1) = .none := fun h => by have := ((grow_ok hin 1).1 h).1; simp [growR] at this; omega
          simp [hS.P, hr, hE, planErr, boundAns, hT]
          rw [← hT]
          refine (same10_spec hS (.bare 8) (by simp [PE.Ok]) 8).go ?_
          simp [hS.P, PE.code, PE.place, show codeG 8 = 8 from rfl]
          refine ⟨1 + 1, _, ⟨by omega, ?_, ?_⟩, by omega, Wk.regs (by simp [wk])⟩
          · repeat (first | exact g2 | refine (AH.put_ne _ _ (by assumption)).trans ?_)
          · repeat (first | exact hk2 | refine put_keeps (by assumption) ?_)
      · simp [hS.P, r2, r3, r4, e0, e2, e3, e4, e0.symm, e2.symm, e3.symm, e4.symm, wv]
        refine frz3 (P := (growP y 2).pages.map encPage) (R := (growP y 2).procs.map encProc) (S := (growP y 2).sems.map encInt) (by simp [growP, r2, encPage, e0, e2, e3, e4, e0.symm, e2.symm, e3.symm, e4.symm]) (by simp [growP, r3, encProc, e0, e2, e3, e4, e0.symm, e2.symm, e3.symm, e4.symm]) (by simp [growP, r4, encInt, e0, e2, e3, e4, e0.symm, e2.symm, e3.symm, e4.symm]) (by omega) (by omega) (by omega) (by simp [growP]) (by simp [growP]) (by simp [growP]) ?_
        refine (planBound_spec hS (growP y 2) (growP_small hin 2) _).mono ?_
        rintro _ _ ⟨rfl, rfl⟩
        by_cases hr : y.events < 8
        · by_cases hs : boundI y + 1 ≤ 4096
          · have hE : planE (growP y 2) = .none := (grow_ok hin 2).2 ⟨by simp [growR]; omega, by simp only [growB]; omega⟩
            have hb : boundI (growP y 2) = boundI y + 1 := grow_bound y 2
            have hw : IntKind.i64.wrap (boundI y + 1) = boundI y + 1 := wrap64 (by omega) (by omega)
            simp [hS.P, hr, hs, hE, hb, hw, planErr, boundAns, encErr]
            refine ⟨2 + 1, _, ⟨by omega, ?_, ?_⟩, by omega, Wk.regs (by simp [wk])⟩
            · repeat (first | exact g2 | refine (AH.put_ne _ _ (by assumption)).trans ?_)
            · repeat (first | exact hk2 | refine put_keeps (by assumption) ?_)
          · have hE : ¬ planE (growP y 2) = .none := fun h => by have := ((grow_ok hin 2).1 h).2; simp only [growB] at this; omega
            have hw : IntKind.i64.wrap (boundI y + 1) = boundI y + 1 := wrap64 (by omega) (by omega)
            simp [hS.P, hr, hs, hw, hE, planErr, boundAns, hT]
            rw [← hT]
            refine (same10_spec hS (.bare 8) (by simp [PE.Ok]) 8).go ?_
            simp [hS.P, PE.code, PE.place, show codeG 8 = 8 from rfl]
            refine ⟨2 + 1, _, ⟨by omega, ?_, ?_⟩, by omega, Wk.regs (by simp [wk])⟩
            · repeat (first | exact g2 | refine (AH.put_ne _ _ (by assumption)).trans ?_)
            · repeat (first | exact hk2 | refine put_keeps (by assumption) ?_)
        · have hE : ¬ planE (growP y 2) = .none := fun h => by have := ((grow_ok hin 2).1 h).1; simp [growR] at this; omega
          simp [hS.P, hr, hE, planErr, boundAns, hT]
          rw [← hT]
          refine (same10_spec hS (.bare 8) (by simp [PE.Ok]) 8).go ?_
          simp [hS.P, PE.code, PE.place, show codeG 8 = 8 from rfl]
          refine ⟨2 + 1, _, ⟨by omega, ?_, ?_⟩, by omega, Wk.regs (by simp [wk])⟩
          · repeat (first | exact g2 | refine (AH.put_ne _ _ (by assumption)).trans ?_)
          · repeat (first | exact hk2 | refine put_keeps (by assumption) ?_)
      · simp [hS.P, r2, r3, r4, e0, e2, e3, e4, e0.symm, e2.symm, e3.symm, e4.symm]
        refine aIf_mk (by omega) ?_
        simp [hS.P, r2, r3, r4, e0, e2, e3, e4, e0.symm, e2.symm, e3.symm, e4.symm]
        refine frz3 (P := (growP y 3).pages.map encPage) (R := (growP y 3).procs.map encProc) (S := (growP y 3).sems.map encInt) (by simp [growP, r2, encPage, e0, e2, e3, e4, e0.symm, e2.symm, e3.symm, e4.symm]) (by simp [growP, r3, encProc, e0, e2, e3, e4, e0.symm, e2.symm, e3.symm, e4.symm]) (by simp [growP, r4, encInt, e0, e2, e3, e4, e0.symm, e2.symm, e3.symm, e4.symm]) (by omega) (by omega) (by omega) (by simp [growP]) (by simp [growP]) (by simp [growP]) ?_
        refine (planBound_spec hS (growP y 3) (growP_small hin 3) _).mono ?_
        rintro _ _ ⟨rfl, rfl⟩
        by_cases hr : (y.sems.length : Int) < 8
        · by_cases hs : boundI y + 1 ≤ 4096
          · have hE : planE (growP y 3) = .none := (grow_ok hin 3).2 ⟨by simp [growR]; omega, by simp only [growB]; omega⟩
            have hb : boundI (growP y 3) = boundI y + 1 := grow_bound y 3
            have hw : IntKind.i64.wrap (boundI y + 1) = boundI y + 1 := wrap64 (by omega) (by omega)
            simp [hS.P, hr, hs, hE, hb, hw, planErr, boundAns, encErr]
            refine ⟨3 + 1, _, ⟨by omega, ?_, ?_⟩, by omega, Wk.regs (by simp [wk])⟩
            · repeat (first | exact g2 | refine (AH.put_ne _ _ (by assumption)).trans ?_)
            · repeat (first | exact hk2 | refine put_keeps (by assumption) ?_)
          · have hE : ¬ planE (growP y 3) = .none := fun h => by have := ((grow_ok hin 3).1 h).2; simp only [growB] at this; omega
            have hw : IntKind.i64.wrap (boundI y + 1) = boundI y + 1 := wrap64 (by omega) (by omega)
            simp [hS.P, hr, hs, hw, hE, planErr, boundAns, hT]
            rw [← hT]
            refine (same10_spec hS (.bare 8) (by simp [PE.Ok]) 8).go ?_
            simp [hS.P, PE.code, PE.place, show codeG 8 = 8 from rfl]
            refine ⟨3 + 1, _, ⟨by omega, ?_, ?_⟩, by omega, Wk.regs (by simp [wk])⟩
            · repeat (first | exact g2 | refine (AH.put_ne _ _ (by assumption)).trans ?_)
            · repeat (first | exact hk2 | refine put_keeps (by assumption) ?_)
        · have hE : ¬ planE (growP y 3) = .none := fun h => by have := ((grow_ok hin 3).1 h).1; simp [growR] at this; omega
          simp [hS.P, hr, hE, planErr, boundAns, hT]
          rw [← hT]
          refine (same10_spec hS (.bare 8) (by simp [PE.Ok]) 8).go ?_
          simp [hS.P, PE.code, PE.place, show codeG 8 = 8 from rfl]
          refine ⟨3 + 1, _, ⟨by omega, ?_, ?_⟩, by omega, Wk.regs (by simp [wk])⟩
          · repeat (first | exact g2 | refine (AH.put_ne _ _ (by assumption)).trans ?_)
          · repeat (first | exact hk2 | refine put_keeps (by assumption) ?_)
      · omega
    · simp [hS.P]
      exact Leave.data hk (by simp) ⟨rfl, rfl⟩
end Go.Proofs.YtndoembhbfiokaaDoor.Am
