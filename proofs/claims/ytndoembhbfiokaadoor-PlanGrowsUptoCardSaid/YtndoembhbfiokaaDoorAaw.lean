/- The logic and the contracts that the laws stand on, part 23. -/
import Derived.Test.YtndoembhbfiokaaDoorAav
set_option linter.unusedVariables false
set_option linter.unusedSimpArgs false
namespace Go.Proofs.YtndoembhbfiokaaDoor.Am
open Go.RowKit Go.Proofs

theorem bor_small {X : Ctx} {H : AH} {id : Nat} {p : PlanD} (hr : H.get id = .row (p.procs.map encProc) 3 0) (hp : { p with procs := small10.procs } = small10) (hl : p.procs.length = 2) : BorL X H [small10V id] [encPlan p] := by
  have e : encPlan p = .agg [.int .i64 3, .bool true, .fsl (small10.pages.map encPage), .fsl (p.procs.map encProc), .fsl (small10.ports.map encPort), .int .i64 1, .fsl (small10.sems.map encInt)] := by
    have h1 := congrArg PlanD.id hp; have h2 := congrArg PlanD.mobile hp; have h3 := congrArg PlanD.pages hp; have h4 := congrArg PlanD.ports hp; have h5 := congrArg PlanD.events hp; have h6 := congrArg PlanD.sems hp
    simp only at h1 h2 h3 h4 h5 h6
    rw [encPlan, h1, h2, h3, h4, h5, h6]; rfl
  rw [e]
  exact ⟨Bor.agg ⟨Bor.same _, Bor.same _, Bor.same _, Bor.sl hr (by simp [hl]), Bor.same _, Bor.same _, Bor.same _, trivial⟩, trivial⟩
theorem nw_ints {n : Nat} {p : Nat → Prop} (l : List Int) : (Slot.row (l.map encInt) 1 n).Nw p := by
  intro x hx c hc
  obtain ⟨a, _, rfl⟩ := List.mem_map.1 hx
  simp [encInt] at hc; subst hc; exact .int _ _
theorem killed_nw {s : Slot} {p : Nat → Prop} (h : s.killed = s) : s.Nw p := by
  cases s <;> simp [Slot.killed] at h <;> trivial
theorem boot_new {H K : AH} {p : PlanD} {v : AV} (h : BootLive H.deadAll p v K) : NewOK H v K := by
  have hfr : ∀ i, H.deadAll.get i = .free ↔ H.get i = .free := fun i => by rw [deadAll_get]; exact killed_free
  have f : ∀ k, H.get (H.nx + k) = .free := fun k => AH.free_add H k
  obtain ⟨hv, d2, d3, d4, d6, d7, d8, hk, hr⟩ := h
  simp only [show H.deadAll.nx = H.nx from rfl] at hv d2 d3 d4 d6 d7 d8
  refine ⟨?_, fun i hi => ?_, fun i hi => ?_⟩
  · rw [hv]
    refine .tup _ fun x hx => ?_
    simp at hx
    rcases hx with rfl | rfl
    · refine .agg _ fun x hx => ?_
      simp [stC] at hx
      rcases hx with rfl | rfl | rfl | rfl | rfl | rfl | rfl | rfl | rfl | rfl
      · exact .int _ _
      · exact .int _ _
      · exact .sl _ _ _ _ ⟨f 6, by rw [d6]; simp⟩
      · exact .sl _ _ _ _ ⟨f 7, by rw [d7]; simp⟩
      · exact .csl
      · exact .sl _ _ _ _ ⟨f 2, by rw [d2]; simp⟩
      · exact .sl _ _ _ _ ⟨f 3, by rw [d3]; simp⟩
      · exact .sl _ _ _ _ ⟨f 4, by rw [d4]; simp⟩
      · exact .sl _ _ _ _ ⟨f 8, by rw [d8]; simp⟩
    · exact .nili
  · rw [hk i (by rw [Ne, hfr]; exact hi)]; exact deadAll_dead hi
  · cases hb : bootIds H.deadAll i with
    | false => exact killed_nw (hr i ((hfr i).2 hi) hb)
    | true =>
      change (i == H.nx + 2 || i == H.nx + 3 || i == H.nx + 4 || i == H.nx + 6 || i == H.nx + 7 || i == H.nx + 8) = true at hb
      simp at hb
      rcases hb with ((((rfl | rfl) | rfl) | rfl) | rfl) | rfl
      · rw [d2]; intro x hx c hc; rw [List.eq_of_mem_replicate hx] at hc; simp at hc; subst hc; exact .bool _
      · rw [d3]; exact nw_ints _
      · rw [d4]; intro x hx c hc; rw [List.eq_of_mem_replicate hx] at hc; simp [portZero] at hc
        rcases hc with rfl | rfl
        · exact .csl
        · exact .int _ _
      · rw [d6]; intro x hx c hc
        obtain ⟨a, _, rfl⟩ := List.mem_map.1 hx
        rw [encProcS_cells] at hc
        rcases List.mem_append.1 hc with hc | hc
        · obtain ⟨b, _, rfl⟩ := List.mem_map.1 hc; exact .int _ _
        · simp at hc; rcases hc with rfl | rfl | rfl | rfl | rfl <;> exact .int _ _
      · rw [d7]; exact nw_ints _
      · rw [d8]; intro x hx c hc
        obtain ⟨a, _, rfl⟩ := List.mem_map.1 hx
        rw [encPageS_cells] at hc
        simp at hc
        rcases hc with rfl | rfl | ⟨b, _, rfl⟩
        · exact .int _ _
        · exact .bool _
        · exact .int _ _
theorem bytes_new {H K : AH} {p : PlanD} {v : AV} (h : BytesLive H.deadAll p v K) : NewOK H v K := by
  have hfr : ∀ i, H.deadAll.get i = .free ↔ H.get i = .free := fun i => by rw [deadAll_get]; exact killed_free
  obtain ⟨⟨id, ver, hf, rfl, hr, hk⟩, hkeep⟩ := h
  refine ⟨?_, fun i hi => ?_, fun i hi => ?_⟩
  · refine .tup _ fun x hx => ?_
    simp at hx
    rcases hx with rfl | rfl
    · exact .sl _ _ _ _ ⟨(hfr _).1 hf, by rw [hr]; simp⟩
    · exact .nili
  · rw [hkeep i (by rw [Ne, hfr]; exact hi)]; exact deadAll_dead hi
  · by_cases e : i = id
    · subst e; rw [hr]; intro x hx c hc
      obtain ⟨a, _, rfl⟩ := List.mem_map.1 hx
      simp [encB] at hc; subst hc; exact .int _ _
    · exact killed_nw (hk i ((hfr i).2 hi) e)
@[simp] theorem small10V_cells (i : Nat) : (small10V i).cells = [.int .i64 3, .bool true, .fsl (small10.pages.map encPage), .sl i 0 0 2, .fsl (small10.ports.map encPort), .int .i64 1, .fsl (small10.sems.map encInt)] := rfl
@[simp] theorem small10V_good (i : Nat) : (small10V i).good = true := rfl
theorem nw_res {p : Nat → Prop} {n : Int} : AV.Nw p (.tup [.int .i64 n, .nili]) := .tup _ fun x hx => by
  simp at hx
  rcases hx with rfl | rfl
  · exact .int _ _
  · exact .nili
set_option maxRecDepth 8000 in
theorem fixed10_spec {X : Ctx} (hS : Sent X) : ACalc X 17 [] (.bool true) := by
  intro H
  refine acalls' (N := 92) (rs := [.tmp 0]) [] (by rw [hS.P]; exact Tryd.func17) rfl rfl rfl (by decide) (by simp) ?_
  simp [entryR, hS.P]
  refine (small10_live hS H).mono ?_
  rintro v K ⟨⟨id, hf, rfl, hr, hk⟩, hkeep⟩
  simp [hS.P]
  have hne : id ≠ K.nx := fun e => by have := AH.lt_nx (AH.ne_free hr); omega
  have hkeep1 := put_keeps (s := .row [small10V id] 7 0) (keepsNx hkeep) hkeep
  have g0 : (K.put K.nx (.row [small10V id] 7 0)).get K.nx = .row [small10V id] 7 0 := AH.put_same _ _ _
  have g1 : (K.put K.nx (.row [small10V id] 7 0)).get id = .row (small10.procs.map encProc) 3 0 := by rw [AH.put_ne _ _ hne]; exact hr
  generalize hM : (AH.put K K.nx _) = M
  replace hM : (K.put K.nx (.row [small10V id] 7 0)) = M := hM
  rw [hM] at hkeep1 g0 g1
  clear hr hk hkeep hM
  refine (planBound_spec hS small10 small10_small).lend (bor_small g1 rfl rfl) (by simp only [planErr, small10_ok]; exact nw_res) ?_
  simp [hS.P, g0, planErr, small10_ok, encErr]
  refine (planCheck_spec hS small10 small10_small).lend (bor_small g1 rfl rfl) (by rw [small10_ok]; exact .nili) ?_
  simp [hS.P, g0, planErr, small10_ok, encErr, boundAns, small10_bound]
  refine (ACalls.borrow (bor_small g1 rfl rfl).args (planBoot_live hS small10 small10_small small10_ok M.deadAll) fun v K h => boot_new h).mono ?_
  rintro v _ ⟨K1, ⟨hv, -, -, -, d6, d7, d8, -, -⟩, rfl⟩
  simp only [show M.deadAll.nx = M.nx from rfl] at hv d6 d7 d8
  have f : ∀ k, M.get (M.nx + k) = .free := fun k => AH.free_add M k
  rw [← merge_new (f 6)] at d6
  rw [← merge_new (f 7)] at d7
  rw [← merge_new (f 8)] at d8
  rw [← merge_old (K := K1) (AH.ne_free g0)] at g0
  rw [← merge_old (K := K1) (AH.ne_free g1)] at g1
  have hkeep2 : ∀ i, H.get i ≠ .free → (M.merge K1).get i = H.get i := fun i hi => by rw [merge_old (by rw [hkeep1 i hi]; exact hi), hkeep1 i hi]
  clear hkeep1 f
  generalize M.merge K1 = N at *
  generalize M.nx = m at *
  clear M
  have l1 : small10.procs.length = 2 := rfl
  have l2 : (readyL small10.procs 0).length = 1 := by decide
  have l3 : small10.pages.length = 2 := rfl
  simp only [l1, l2, l3] at hv d6 d7 d8
  rw [hv]
  simp [hS.P, stC]
  have n0 := AH.lt_nx (AH.ne_free g0)
  have n1 := AH.lt_nx (AH.ne_free g1)
  have n6 := AH.lt_nx (AH.ne_free d6)
  have n7 := AH.lt_nx (AH.ne_free d7)
  have n8 := AH.lt_nx (AH.ne_free d8)
  generalize hM : (AH.put N N.nx _) = M
  have e0 : M.get K.nx = .row [small10V id] 7 0 := by rw [← hM, AH.put_ne _ _ (by omega)]; exact g0
  have e1 : M.get id = .row (small10.procs.map encProc) 3 0 := by rw [← hM, AH.put_ne _ _ (by omega)]; exact g1
  have e6 : M.get (m + 6) = .row ((small10.procs.map bootProc).map encProcS) 21 2 := by rw [← hM, AH.put_ne _ _ (by omega)]; exact d6
  have e7 : M.get (m + 7) = .row ((readyL small10.procs 0).map encInt) 1 1 := by rw [← hM, AH.put_ne _ _ (by omega)]; exact d7
  have e8 : M.get (m + 8) = .row ((small10.pages.map bootPage).map encPageS) 66 2 := by rw [← hM, AH.put_ne _ _ (by omega)]; exact d8
  have es : M.get N.nx = .row [.agg [.int .i64 small10.id, .int .i64 0, .int .i64 0, .sl (m + 6) 2 0 2, .sl (m + 7) 1 0 1, .csl [], .sl (m + 2) 0 0 small10.events.toNat, .sl (m + 3) 0 0 small10.sems.length, .sl (m + 4) 0 0 small10.ports.length, .sl (m + 8) 2 0 2]] 10 0 := by rw [← hM]; exact AH.put_same _ _ _
  have hkeep3 : ∀ i, H.get i ≠ .free → M.get i = H.get i := by rw [← hM]; exact put_keeps (keepsNx hkeep2) hkeep2
  clear hM g0 g1 d6 d7 d8 n0 n1 n6 n7 n8 hkeep2 hv
  generalize N.nx = s at *
  clear N K1 v
  simp [hS.P, e0]
  refine (ACalls.borrow (bor_small e1 rfl rfl).args (planBytes_live hS small10 small10_small small10_ok M.deadAll) fun v K h => bytes_new h).mono ?_
  rintro _ _ ⟨K1, ⟨⟨q, ver, hq, rfl, hr, -⟩, -⟩, rfl⟩
  have hq' : M.get q = .free := killed_free.1 hq
  rw [← merge_new hq'] at hr
  rw [← merge_old (K := K1) (AH.ne_free e0)] at e0
  rw [← merge_old (K := K1) (AH.ne_free e1)] at e1
  rw [← merge_old (K := K1) (AH.ne_free e6)] at e6
  rw [← merge_old (K := K1) (AH.ne_free e7)] at e7
  rw [← merge_old (K := K1) (AH.ne_free e8)] at e8
  rw [← merge_old (K := K1) (AH.ne_free es)] at es
  have hkeep2 : ∀ i, H.get i ≠ .free → (M.merge K1).get i = H.get i := fun i hi => by rw [merge_old (by rw [hkeep3 i hi]; exact hi), hkeep3 i hi]
  clear hkeep3 hq hq'
  generalize M.merge K1 = N at *
  clear M K1
  have hpg : small10.pages[0]? = some ⟨5, [97, 98]⟩ := rfl
  have hpd : ∀ h : 1 < (bootPage ⟨5, [97, 98]⟩).data.length, (bootPage ⟨5, [97, 98]⟩).data[1] = 98 := fun _ => rfl
  have hpl : (bootPage ⟨5, [97, 98]⟩).data.length = 64 := by decide
  have hb15 : bytesOf (List.take 15 (List.map encB (sealB (planB small10)))) = some [70, 80, 76, 78, 0, 1, 0, 0, 0, 69, 0, 0, 0, 3, 1] := by rw [← List.map_take, small10_head]; rfl
  have hpr : small10.procs[1]? = some ⟨64, 9, false⟩ := rfl
  have hne' : ¬ K.nx = id := fun e => hne e.symm
  simp [hS.P, e0, e1, e6, e7, e8, es, hr, small10_bytes, hb15, hpr, hne, hne', hpg, hpd, hpl, encB]
  refine ACalls.frz id 0 3 (small66.procs.map encProc) [encPlan small66] ((AH.put_same _ _ _).trans rfl) ⟨.agg _ _ rfl fun j u v k1 k2 => ?_, trivial⟩ ?_
  · rcases j with _ | _ | _ | _ | _ | _ | _ | j <;> simp [encPlan_cells] at k1 k2 <;> subst k1 k2 <;> first | exact .refl _ | exact Frz.all rfl
  rw [AH.put_put]
  refine (planCheck_spec hS small66 small66_small _).mono ?_
  rintro _ _ ⟨rfl, rfl⟩
  simp [hS.P]
  have ho : (planE small66).Ok := by rw [small66_bad]; simp [PE.Ok]
  refine (code_spec hS _ ho).go ?_
  simp [hS.P, small66_bad, PE.code, PE.place, show codeG 4 = 4 from rfl]
  refine (place_spec hS (.at 1 4)).go ?_
  simp [hS.P, PE.place]
  trace_state
  exact Leave.data (put_keeps hf hkeep2) (by simp) ⟨rfl, rfl⟩
end Go.Proofs.YtndoembhbfiokaaDoor.Am
set_option linter.unusedVariables false
set_option linter.unusedSimpArgs false
namespace Go.Proofs.YtndoembhbfiokaaDoor.Am
open Go.RowKit Go.Proofs

structure CaseD10 where
  p : PlanD
  q : PlanD
  b : List UInt8
  at_ : Int
  mask : Int
def caseCells10 (x : CaseD10) : List AV :=
  [.int .i64 x.p.id, .bool x.p.mobile, .fsl (x.p.pages.map encPage), .fsl (x.p.procs.map encProc), .fsl (x.p.ports.map encPort), .int .i64 x.p.events, .fsl (x.p.sems.map encInt),
   .int .i64 x.q.id, .bool x.q.mobile, .fsl (x.q.pages.map encPage), .fsl (x.q.procs.map encProc), .fsl (x.q.ports.map encPort), .int .i64 x.q.events, .fsl (x.q.sems.map encInt),
   encBytes x.b, .int .i64 x.at_, .int .u32 x.mask]
def encCase10 (x : CaseD10) : AV := .agg (caseCells10 x)
@[simp] theorem encCase10_cells (x : CaseD10) : (encCase10 x).cells = [.int .i64 x.p.id, .bool x.p.mobile, .fsl (x.p.pages.map encPage), .fsl (x.p.procs.map encProc), .fsl (x.p.ports.map encPort), .int .i64 x.p.events, .fsl (x.p.sems.map encInt),
   .int .i64 x.q.id, .bool x.q.mobile, .fsl (x.q.pages.map encPage), .fsl (x.q.procs.map encProc), .fsl (x.q.ports.map encPort), .int .i64 x.q.events, .fsl (x.q.sems.map encInt),
   encBytes x.b, .int .i64 x.at_, .int .u32 x.mask] := rfl
@[simp] theorem encCase10_good (x : CaseD10) : (encCase10 x).good = true := rfl
@[simp] theorem encCase10_isAgg (x : CaseD10) : (encCase10 x).isAgg = true := rfl
structure CaseD10.Small (x : CaseD10) : Prop where
  p : x.p.Small
  q : x.q.Small
  b : x.b.length ≤ 1073741824
theorem planErr_code (p : PlanD) : (planErr p).code = planCode p := by
  unfold planErr planCode; split <;> rfl
theorem planErr_place (p : PlanD) : (planErr p).place = -1 := by
  unfold planErr; split <;> rfl
theorem planChecks_spec {X : Ctx} (hS : Sent X) (x : CaseD10) (hx : x.Small) : ACalc X 8 [encCase10 x] (.bool true) := by
  intro H
  refine acalls' (N := 122) (rs := [.tmp 2]) [] (by rw [hS.P]; exact Tryd.func8) rfl rfl rfl (by decide) (by simp) ?_
  simp [entryR, hS.P]
  refine (fixed10_spec hS).go ?_
  simp [hS.P]
  refine AWp.loop (S := Nat × AH) (fun s => s.1 ≤ 2 ∧ s.2.get H.nx = .row [encCase10 x] 17 0 ∧ ∀ i, H.get i ≠ .free → s.2.get i = H.get i)
    (fun s => [(1, .ptr H.nx 0 0 0), (3, .csl [encPlan x.p, encPlan x.q]), (4, .int .i64 s.1)])
    (fun s => s.2) (fun s => 2 - s.1) (0, H.put H.nx (.row [encCase10 x] 17 0)) ⟨Nat.zero_le _, AH.put_same _ _ _, put_keeps (AH.fresh H) (keeps_refl H)⟩ (Wk.regs (by simp [encPlan])) fun s hs => ?_
  obtain ⟨n, K⟩ := s
  obtain ⟨hn, g0, hk⟩ := hs
  simp only at hn g0 hk
  refine aC_sound (lv := []) _ _ _ _ ?_
  simp [hS.P, g0]
  refine aCond_dec (fun hlt => ?_) (fun hge => ?_)
  · obtain ⟨y, hy, hys⟩ : ∃ y : PlanD, [encPlan x.p, encPlan x.q][n]? = some (encPlan y) ∧ y.Small := by
      rcases n with _ | _ | n
      · exact ⟨x.p, rfl, hx.p⟩
      · exact ⟨x.q, rfl, hx.q⟩
      · omega
    simp [hS.P, g0, hy]
    refine (rplanCheck_spec hS y hys).go ?_
    have hm := AH.lt_nx (AH.ne_free g0)
    simp [hS.P, g0, hy, encPR, encR]
    generalize hM : (AH.put K K.nx _) = M
    have e0 : M.get H.nx = .row [encCase10 x] 17 0 := by rw [← hM, AH.put_ne _ _ (by omega)]; exact g0
    have e1 : M.get K.nx = .row [.agg [.int .i64 (planE y).code, .int .i64 (planE y).place]] 2 0 := by rw [← hM]; exact AH.put_same _ _ _
    have hk2 : ∀ i, H.get i ≠ .free → M.get i = H.get i := by rw [← hM]; exact put_keeps (keepsNx hk) hk
    generalize K.nx = t5 at e1 ⊢
    clear hM g0 hk hm K
    refine (rBound_spec hS y hys).go ?_
    simp [hS.P, hy]
    refine (rSpan_spec hS y hys).go ?_
    simp [hS.P, hy]
    refine (planCopy_spec hS y hys).go ?_
    simp [hS.P]
    refine (planCheck_spec hS y hys).go ?_
    simp [hS.P]
    rw [aC_draw (hc := by kernel_rfl)]
    simp [hS.P, e1]
    refine (code_spec hS _ (planE_ok y)).call ?_
    simp [hS.P, e1]
    refine (place_spec hS _).call ?_
    simp [hS.P, e1]
    refine aIf_mk (chkH_reads (by simp)) ?_
    simp [hS.P, e1, hy]
    refine (planCopy_spec hS y hys).go ?_
    simp [hS.P]
    refine (planBound_spec hS y hys).go ?_
    simp [hS.P]
    refine (same10_spec hS _ (planErr_ok y) (planCode y)).go ?_
    simp [hS.P, planErr_code, planErr_place, hy]
    refine (planCopy_spec hS y hys).go ?_
    simp [hS.P]
    refine (planSpan_spec hS y hys).go ?_
    simp [hS.P]
    refine (same10_spec hS _ (planErr_ok y) (planCode y)).go ?_
    simp [hS.P, planErr_code, planErr_place, hy]
    refine ⟨n + 1, M, ⟨by omega, e0, hk2⟩, by omega, Wk.regs (by simp [wrap1 (n := n) (by omega)])⟩
  · simp [hS.P, g0]
    rw [aC_draw (hc := by kernel_rfl)]
    simp [hS.P, g0]
    refine (planCopy_spec hS x.p hx.p).call ?_
    simp [hS.P, g0]
    refine (planCopy_spec hS x.q hx.q).call ?_
    simp [hS.P, g0]
    refine (planSame_spec hS x.p x.q hx.p hx.q).call ?_
    simp [hS.P, g0]
    refine (rplanSame_spec hS x.p x.q hx.p hx.q).call ?_
    simp [hS.P, g0]
    refine (planCopy_spec hS x.p hx.p).call ?_
    simp [hS.P, g0]
    refine (planCopy_spec hS x.p hx.p).call ?_
    simp [hS.P, g0]
    refine (planSame_spec hS x.p x.p hx.p hx.p).call ?_
    simp [hS.P, g0]
    refine aIf_mk (chkH_reads (by simp)) ?_
    simp [hS.P]
    exact Leave.data hk (by simp) ⟨rfl, rfl⟩
end Go.Proofs.YtndoembhbfiokaaDoor.Am
/- How a case of the plans' laws is read. -/
set_option linter.unusedVariables false
set_option linter.unusedSimpArgs false
namespace Go.Proofs.YtndoembhbfiokaaDoor.Am
open Go Go.RowKit Go.Proofs Go.Proofs.YtndoembhbfiokaaDoor Go.ChangeShapes Go.WideShapes Go.ChangeAt

theorem decBytes : Dec (@UB) Tryd.prog 57 (fun xs : List UInt8 => [encBytes xs]) 1 (fun xs => xs.length + 1) (fun _ => True) :=
  (Dec.slice bulk Tryd.underlying57 (by kernel_rfl) (Dec.u8 bulk Tryd.underlying5 (by kernel_rfl)) (by decide) encB (fun _ => rfl)).map (fun xs => xs) (fun _ => rfl) (fun xs => by simp [sum_ones]) (fun _ _ => trivial) (fun _ _ => rfl)
theorem decMask : Dec (@UB) Tryd.prog 58 (fun n : Int => [.int .u32 n]) 1 (fun _ => 1) (fun _ => True) :=
  (Dec.int bulk Tryd.underlying58 (by kernel_rfl)).map (fun n => n) (fun _ => rfl) (fun _ => Nat.le_refl _) (fun _ _ => trivial) (fun _ _ => rfl)
def bkCase10 (x : CaseD10) : Nat := bkPlan x.p + bkPlan x.q + x.b.length + 1
theorem decCase10 : Dec (@UB) Tryd.prog 60 caseCells10 17 bkCase10 (fun _ => True) :=
  (Dec.struct bulk Tryd.underlying60 (by kernel_rfl) (DecFs.cons decPlan rfl (DecFs.cons decPlan rfl (DecFs.cons decBytes rfl (DecFs.cons decInt rfl (DecFs.cons decMask rfl (DecFs.nil _))))))).map
    (fun x => (⟨x.1, x.2.1, x.2.2.1, x.2.2.2.1, x.2.2.2.2.1⟩ : CaseD10)) (fun _ => rfl) (fun x => by simp [bkCase10]; omega) (fun _ _ => trivial) (fun _ _ => rfl)
theorem caseSmall10 {x : CaseD10} (h : bkCase10 x ≤ 1048576) : x.Small := by
  unfold bkCase10 at h
  exact ⟨planSmall (by omega), planSmall (by omega), by omega⟩
end Go.Proofs.YtndoembhbfiokaaDoor.Am
