/- The logic and the contracts that the laws stand on, part 21. -/
import Derived.Test.YtndoembhbfiokaaGreatDoorAat
set_option linter.unusedVariables false
set_option linter.unusedSimpArgs false
namespace Go.Proofs.YtndoembhbfiokaaGreatDoor.Am
open Go.RowKit Go.Proofs

theorem bor_small {X : Ctx} {H : AH} {id : Nat} {p : PlanD} (hr : H.get id = .row (p.procs.map encProc) 3 0) (hp : { p with procs := small10.procs } = small10) (hl : p.procs.length = 2) : BorL X H [small10V id] [encPlan p] := by
  have e : encPlan p = .agg [.int .i64 3, .bool true, .fsl (small10.pages.map encPage), .fsl (p.procs.map encProc), .fsl (small10.ports.map encPort), .int .i64 1, .fsl (small10.sems.map encInt)] := by
    have h1 := congrArg PlanD.id hp; have h2 := congrArg PlanD.mobile hp; have h3 := congrArg PlanD.pages hp; have h4 := congrArg PlanD.ports hp; have h5 := congrArg PlanD.events hp; have h6 := congrArg PlanD.sems hp
    simp only at h1 h2 h3 h4 h5 h6
    rw [encPlan, h1, h2, h3, h4, h5, h6]; rfl
  rw [e]
  exact ⟨Bor.agg ⟨Bor.same _, Bor.same _, Bor.same _, Bor.sl hr (by simp [hl]), Bor.same _, Bor.same _, Bor.same _, trivial⟩, trivial⟩
theorem nw_ints {n : Nat} {p : Nat → Prop} (l : List Int) : (Slot.row (l.map encInt) 1 n).Nw p := by
  intro x hx c hc
  obtain ⟨a, _, rfl⟩ := List.mem_map.1 hx
  simp [encInt] at hc; subst hc; exact .int _ _
theorem killed_nw {s : Slot} {p : Nat → Prop} (h : s.killed = s) : s.Nw p := by
  cases s <;> simp [Slot.killed] at h <;> trivial
theorem boot_new {H K : AH} {p : PlanD} {v : AV} (h : BootLive H.deadAll p v K) : NewOK H v K := by
  have hfr : ∀ i, H.deadAll.get i = .free ↔ H.get i = .free := fun i => by rw [deadAll_get]; exact killed_free
  have f : ∀ k, H.get (H.nx + k) = .free := fun k => AH.free_add H k
  obtain ⟨hv, d2, d3, d4, d6, d7, d8, hk, hr⟩ := h
  simp only [show H.deadAll.nx = H.nx from rfl] at hv d2 d3 d4 d6 d7 d8
  refine ⟨?_, fun i hi => ?_, fun i hi => ?_⟩
  · rw [hv]
    refine .tup _ fun x hx => ?_
    simp at hx
    rcases hx with rfl | rfl
    · refine .agg _ fun x hx => ?_
      simp [stC] at hx
      rcases hx with rfl | rfl | rfl | rfl | rfl | rfl | rfl | rfl | rfl | rfl
      · exact .int _ _
      · exact .int _ _
      · exact .sl _ _ _ _ ⟨f 6, by rw [d6]; simp⟩
      · exact .sl _ _ _ _ ⟨f 7, by rw [d7]; simp⟩
      · exact .csl
      · exact .sl _ _ _ _ ⟨f 2, by rw [d2]; simp⟩
      · exact .sl _ _ _ _ ⟨f 3, by rw [d3]; simp⟩
      · exact .sl _ _ _ _ ⟨f 4, by rw [d4]; simp⟩
      · exact .sl _ _ _ _ ⟨f 8, by rw [d8]; simp⟩
    · exact .nili
  · rw [hk i (by rw [Ne, hfr]; exact hi)]; exact deadAll_dead hi
  · cases hb : bootIds H.deadAll i with
    | false => exact killed_nw (hr i ((hfr i).2 hi) hb)
    | true =>
      change (i == H.nx + 2 || i == H.nx + 3 || i == H.nx + 4 || i == H.nx + 6 || i == H.nx + 7 || i == H.nx + 8) = true at hb
      simp at hb
      rcases hb with ((((rfl | rfl) | rfl) | rfl) | rfl) | rfl
      · rw [d2]; intro x hx c hc; rw [List.eq_of_mem_replicate hx] at hc; simp at hc; subst hc; exact .bool _
      · rw [d3]; exact nw_ints _
      · rw [d4]; intro x hx c hc; rw [List.eq_of_mem_replicate hx] at hc; simp [portZero] at hc
        rcases hc with rfl | rfl
        · exact .csl
        · exact .int _ _
      · rw [d6]; intro x hx c hc
        obtain ⟨a, _, rfl⟩ := List.mem_map.1 hx
        rw [encProcS_cells] at hc
        rcases List.mem_append.1 hc with hc | hc
        · obtain ⟨b, _, rfl⟩ := List.mem_map.1 hc; exact .int _ _
        · simp at hc; rcases hc with rfl | rfl | rfl | rfl | rfl <;> exact .int _ _
      · rw [d7]; exact nw_ints _
      · rw [d8]; intro x hx c hc
        obtain ⟨a, _, rfl⟩ := List.mem_map.1 hx
        rw [encPageS_cells] at hc
        simp at hc
        rcases hc with rfl | rfl | ⟨b, _, rfl⟩
        · exact .int _ _
        · exact .bool _
        · exact .int _ _
theorem bytes_new {H K : AH} {p : PlanD} {v : AV} (h : BytesLive H.deadAll p v K) : NewOK H v K := by
  have hfr : ∀ i, H.deadAll.get i = .free ↔ H.get i = .free := fun i => by rw [deadAll_get]; exact killed_free
  obtain ⟨⟨id, ver, hf, rfl, hr, hk⟩, hkeep⟩ := h
  refine ⟨?_, fun i hi => ?_, fun i hi => ?_⟩
  · refine .tup _ fun x hx => ?_
    simp at hx
    rcases hx with rfl | rfl
    · exact .sl _ _ _ _ ⟨(hfr _).1 hf, by rw [hr]; simp⟩
    · exact .nili
  · rw [hkeep i (by rw [Ne, hfr]; exact hi)]; exact deadAll_dead hi
  · by_cases e : i = id
    · subst e; rw [hr]; intro x hx c hc
      obtain ⟨a, _, rfl⟩ := List.mem_map.1 hx
      simp [encB] at hc; subst hc; exact .int _ _
    · exact killed_nw (hk i ((hfr i).2 hi) e)
@[simp] theorem small10V_cells (i : Nat) : (small10V i).cells = [.int .i64 3, .bool true, .fsl (small10.pages.map encPage), .sl i 0 0 2, .fsl (small10.ports.map encPort), .int .i64 1, .fsl (small10.sems.map encInt)] := rfl
@[simp] theorem small10V_good (i : Nat) : (small10V i).good = true := rfl
theorem nw_res {p : Nat → Prop} {n : Int} : AV.Nw p (.tup [.int .i64 n, .nili]) := .tup _ fun x hx => by
  simp at hx
  rcases hx with rfl | rfl
  · exact .int _ _
  · exact .nili
set_option maxRecDepth 8000 in
theorem fixed10_spec {X : Ctx} (hS : Sent X) : ACalc X 5 [] (.bool true) := by
  intro H
  refine acalls' (N := 92) (rs := [.tmp 0]) [] (by rw [hS.P]; exact Tryz.func5) rfl rfl rfl (by decide) (by simp) ?_
  simp [entryR, hS.P]
  refine (small10_live hS H).mono ?_
  rintro v K ⟨⟨id, hf, rfl, hr, hk⟩, hkeep⟩
  simp [hS.P]
  have hne : id ≠ K.nx := fun e => by have := AH.lt_nx (AH.ne_free hr); omega
  have hkeep1 := put_keeps (s := .row [small10V id] 7 0) (keepsNx hkeep) hkeep
  have g0 : (K.put K.nx (.row [small10V id] 7 0)).get K.nx = .row [small10V id] 7 0 := AH.put_same _ _ _
  have g1 : (K.put K.nx (.row [small10V id] 7 0)).get id = .row (small10.procs.map encProc) 3 0 := by rw [AH.put_ne _ _ hne]; exact hr
  generalize hM : (AH.put K K.nx _) = M
  replace hM : (K.put K.nx (.row [small10V id] 7 0)) = M := hM
  rw [hM] at hkeep1 g0 g1
  clear hr hk hkeep hM
  refine (planBound_spec hS small10 small10_small).lend (bor_small g1 rfl rfl) (by simp only [planErr, small10_ok]; exact nw_res) ?_
  simp [hS.P, g0, planErr, small10_ok, encErr]
  refine (planCheck_spec hS small10 small10_small).lend (bor_small g1 rfl rfl) (by rw [small10_ok]; exact .nili) ?_
  simp [hS.P, g0, planErr, small10_ok, encErr, boundAns, small10_bound]
  refine (ACalls.borrow (bor_small g1 rfl rfl).args (planBoot_live hS small10 small10_small small10_ok M.deadAll) fun v K h => boot_new h).mono ?_
  rintro v _ ⟨K1, ⟨hv, -, -, -, d6, d7, d8, -, -⟩, rfl⟩
  simp only [show M.deadAll.nx = M.nx from rfl] at hv d6 d7 d8
  have f : ∀ k, M.get (M.nx + k) = .free := fun k => AH.free_add M k
  rw [← merge_new (f 6)] at d6
  rw [← merge_new (f 7)] at d7
  rw [← merge_new (f 8)] at d8
  rw [← merge_old (K := K1) (AH.ne_free g0)] at g0
  rw [← merge_old (K := K1) (AH.ne_free g1)] at g1
  have hkeep2 : ∀ i, H.get i ≠ .free → (M.merge K1).get i = H.get i := fun i hi => by rw [merge_old (by rw [hkeep1 i hi]; exact hi), hkeep1 i hi]
  clear hkeep1 f
  generalize M.merge K1 = N at *
  generalize M.nx = m at *
  clear M
  have l1 : small10.procs.length = 2 := rfl
  have l2 : (readyL small10.procs 0).length = 1 := by decide
  have l3 : small10.pages.length = 2 := rfl
  simp only [l1, l2, l3] at hv d6 d7 d8
  rw [hv]
  simp [hS.P, stC]
  have n0 := AH.lt_nx (AH.ne_free g0)
  have n1 := AH.lt_nx (AH.ne_free g1)
  have n6 := AH.lt_nx (AH.ne_free d6)
  have n7 := AH.lt_nx (AH.ne_free d7)
  have n8 := AH.lt_nx (AH.ne_free d8)
  generalize hM : (AH.put N N.nx _) = M
  have e0 : M.get K.nx = .row [small10V id] 7 0 := by rw [← hM, AH.put_ne _ _ (by omega)]; exact g0
  have e1 : M.get id = .row (small10.procs.map encProc) 3 0 := by rw [← hM, AH.put_ne _ _ (by omega)]; exact g1
  have e6 : M.get (m + 6) = .row ((small10.procs.map bootProc).map encProcS) 21 2 := by rw [← hM, AH.put_ne _ _ (by omega)]; exact d6
  have e7 : M.get (m + 7) = .row ((readyL small10.procs 0).map encInt) 1 1 := by rw [← hM, AH.put_ne _ _ (by omega)]; exact d7
  have e8 : M.get (m + 8) = .row ((small10.pages.map bootPage).map encPageS) 66 2 := by rw [← hM, AH.put_ne _ _ (by omega)]; exact d8
  have es : M.get N.nx = .row [.agg [.int .i64 small10.id, .int .i64 0, .int .i64 0, .sl (m + 6) 2 0 2, .sl (m + 7) 1 0 1, .csl [], .sl (m + 2) 0 0 small10.events.toNat, .sl (m + 3) 0 0 small10.sems.length, .sl (m + 4) 0 0 small10.ports.length, .sl (m + 8) 2 0 2]] 10 0 := by rw [← hM]; exact AH.put_same _ _ _
  have hkeep3 : ∀ i, H.get i ≠ .free → M.get i = H.get i := by rw [← hM]; exact put_keeps (keepsNx hkeep2) hkeep2
  clear hM g0 g1 d6 d7 d8 n0 n1 n6 n7 n8 hkeep2 hv
  generalize N.nx = s at *
  clear N K1 v
  simp [hS.P, e0]
  refine (ACalls.borrow (bor_small e1 rfl rfl).args (planBytes_live hS small10 small10_small small10_ok M.deadAll) fun v K h => bytes_new h).mono ?_
  rintro _ _ ⟨K1, ⟨⟨q, ver, hq, rfl, hr, -⟩, -⟩, rfl⟩
  have hq' : M.get q = .free := killed_free.1 hq
  rw [← merge_new hq'] at hr
  rw [← merge_old (K := K1) (AH.ne_free e0)] at e0
  rw [← merge_old (K := K1) (AH.ne_free e1)] at e1
  rw [← merge_old (K := K1) (AH.ne_free e6)] at e6
  rw [← merge_old (K := K1) (AH.ne_free e7)] at e7
  rw [← merge_old (K := K1) (AH.ne_free e8)] at e8
  rw [← merge_old (K := K1) (AH.ne_free es)] at es
  have hkeep2 : ∀ i, H.get i ≠ .free → (M.merge K1).get i = H.get i := fun i hi => by rw [merge_old (by rw [hkeep3 i hi]; exact hi), hkeep3 i hi]
  clear hkeep3 hq hq'
  generalize M.merge K1 = N at *
  clear M K1
  have hpg : small10.pages[0]? = some ⟨5, [97, 98]⟩ := rfl
  have hpd : ∀ h : 1 < (bootPage ⟨5, [97, 98]⟩).data.length, (bootPage ⟨5, [97, 98]⟩).data[1] = 98 := fun _ => rfl
  have hpl : (bootPage ⟨5, [97, 98]⟩).data.length = 64 := by decide
  have hb15 : bytesOf (List.take 15 (List.map encB (sealB (planB small10)))) = some [70, 80, 76, 78, 0, 1, 0, 0, 0, 69, 0, 0, 0, 3, 1] := by rw [← List.map_take, small10_head]; rfl
  have hpr : small10.procs[1]? = some ⟨64, 9, false⟩ := rfl
  have hne' : ¬ K.nx = id := fun e => hne e.symm
  simp [hS.P, e0, e1, e6, e7, e8, es, hr, small10_bytes, hb15, hpr, hne, hne', hpg, hpd, hpl, encB]
  refine ACalls.frz id 0 3 (small66.procs.map encProc) [encPlan small66] ((AH.put_same _ _ _).trans rfl) ⟨.agg _ _ rfl fun j u v k1 k2 => ?_, trivial⟩ ?_
  · rcases j with _ | _ | _ | _ | _ | _ | _ | j <;> simp [encPlan_cells] at k1 k2 <;> subst k1 k2 <;> first | exact .refl _ | exact Frz.all rfl
  rw [AH.put_put]
  refine (planCheck_spec hS small66 small66_small _).mono ?_
  rintro _ _ ⟨rfl, rfl⟩
  simp [hS.P]
  have ho : (planE small66).Ok := by rw [small66_bad]; simp [PE.Ok]
  refine (code_spec hS _ ho).go ?_
  simp [hS.P, small66_bad, PE.code, PE.place, show codeG 4 = 4 from rfl]
  refine (place_spec hS (.at 1 4)).go ?_
  simp [hS.P, PE.place]
  trace_state
  exact Leave.data (put_keeps hf hkeep2) (by simp) ⟨rfl, rfl⟩
end Go.Proofs.YtndoembhbfiokaaGreatDoor.Am
set_option linter.unusedVariables false
set_option linter.unusedSimpArgs false
namespace Go.Proofs.YtndoembhbfiokaaGreatDoor.Am
open Go.RowKit Go.Proofs

theorem plan_iff (p q : PlanD) : (p.id = q.id ∧ p.mobile = q.mobile ∧ p.events = q.events ∧ p.pages = q.pages ∧ p.procs = q.procs ∧ p.ports = q.ports ∧ p.sems = q.sems) ↔ p = q := by
  cases p; cases q
  constructor
  · intro h
    simp only at h
    obtain ⟨rfl, rfl, rfl, rfl, rfl, rfl, rfl⟩ := h
    rfl
  · intro h
    cases h
    exact ⟨rfl, rfl, rfl, rfl, rfl, rfl, rfl⟩
instance : DecidableEq PlanD := fun p q => decidable_of_iff _ (plan_iff p q)
end Go.Proofs.YtndoembhbfiokaaGreatDoor.Am
set_option linter.unusedVariables false
set_option linter.unusedSimpArgs false
namespace Go.Proofs.YtndoembhbfiokaaGreatDoor.Am
open Go.RowKit Go.Proofs

theorem conf_iff (p q : ConfD) : (p.ticks = q.ticks ∧ p.tries = q.tries ∧ p.parts = q.parts ∧ p.homes = q.homes ∧ p.windows = q.windows ∧ p.links = q.links) ↔ p = q := by
  cases p; cases q
  constructor
  · intro h
    simp only at h
    obtain ⟨rfl, rfl, rfl, rfl, rfl, rfl⟩ := h
    rfl
  · intro h
    cases h
    exact ⟨rfl, rfl, rfl, rfl, rfl, rfl⟩
instance : DecidableEq ConfD := fun p q => decidable_of_iff _ (conf_iff p q)
end Go.Proofs.YtndoembhbfiokaaGreatDoor.Am
set_option linter.unusedVariables false
set_option linter.unusedSimpArgs false
namespace Go.Proofs.YtndoembhbfiokaaGreatDoor.Am
open Go.RowKit Go.Proofs

end Go.Proofs.YtndoembhbfiokaaGreatDoor.Am
set_option linter.unusedVariables false
set_option linter.unusedSimpArgs false
namespace Go.Proofs.YtndoembhbfiokaaGreatDoor.Am
open Go.RowKit Go.Proofs

structure CaseD10 where
  p : PlanD
  q : PlanD
  b : List UInt8
  at_ : Int
  mask : Int
def caseCells10 (x : CaseD10) : List AV :=
  [.int .i64 x.p.id, .bool x.p.mobile, .fsl (x.p.pages.map encPage), .fsl (x.p.procs.map encProc), .fsl (x.p.ports.map encPort), .int .i64 x.p.events, .fsl (x.p.sems.map encInt),
   .int .i64 x.q.id, .bool x.q.mobile, .fsl (x.q.pages.map encPage), .fsl (x.q.procs.map encProc), .fsl (x.q.ports.map encPort), .int .i64 x.q.events, .fsl (x.q.sems.map encInt),
   encBytes x.b, .int .i64 x.at_, .int .u32 x.mask]
def encCase10 (x : CaseD10) : AV := .agg (caseCells10 x)
@[simp] theorem encCase10_cells (x : CaseD10) : (encCase10 x).cells = [.int .i64 x.p.id, .bool x.p.mobile, .fsl (x.p.pages.map encPage), .fsl (x.p.procs.map encProc), .fsl (x.p.ports.map encPort), .int .i64 x.p.events, .fsl (x.p.sems.map encInt),
   .int .i64 x.q.id, .bool x.q.mobile, .fsl (x.q.pages.map encPage), .fsl (x.q.procs.map encProc), .fsl (x.q.ports.map encPort), .int .i64 x.q.events, .fsl (x.q.sems.map encInt),
   encBytes x.b, .int .i64 x.at_, .int .u32 x.mask] := rfl
@[simp] theorem encCase10_good (x : CaseD10) : (encCase10 x).good = true := rfl
@[simp] theorem encCase10_isAgg (x : CaseD10) : (encCase10 x).isAgg = true := rfl
structure CaseD10.Small (x : CaseD10) : Prop where
  p : x.p.Small
  q : x.q.Small
  b : x.b.length ≤ 1073741824
theorem planErr_code (p : PlanD) : (planErr p).code = planCode p := by
  unfold planErr planCode; split <;> rfl
theorem planErr_place (p : PlanD) : (planErr p).place = -1 := by
  unfold planErr; split <;> rfl
end Go.Proofs.YtndoembhbfiokaaGreatDoor.Am
/- How a case of the plans' laws is read. -/
set_option linter.unusedVariables false
set_option linter.unusedSimpArgs false
namespace Go.Proofs.YtndoembhbfiokaaGreatDoor.Am
open Go Go.RowKit Go.Proofs Go.Proofs.YtndoembhbfiokaaGreatDoor Go.ChangeShapes Go.WideShapes Go.ChangeAt

theorem decBytes : Dec (@UB) Tryz.prog 28 (fun xs : List UInt8 => [encBytes xs]) 1 (fun xs => xs.length + 1) (fun _ => True) :=
  (Dec.slice bulk Tryz.underlying28 (by kernel_rfl) (Dec.u8 bulk Tryz.underlying5 (by kernel_rfl)) (by decide) encB (fun _ => rfl)).map (fun xs => xs) (fun _ => rfl) (fun xs => by simp [sum_ones]) (fun _ _ => trivial) (fun _ _ => rfl)
theorem decMask : Dec (@UB) Tryz.prog 29 (fun n : Int => [.int .u32 n]) 1 (fun _ => 1) (fun _ => True) :=
  (Dec.int bulk Tryz.underlying29 (by kernel_rfl)).map (fun n => n) (fun _ => rfl) (fun _ => Nat.le_refl _) (fun _ _ => trivial) (fun _ _ => rfl)
def bkCase10 (x : CaseD10) : Nat := bkPlan x.p + bkPlan x.q + x.b.length + 1
theorem decCase10 : Dec (@UB) Tryz.prog 31 caseCells10 17 bkCase10 (fun _ => True) :=
  (Dec.struct bulk Tryz.underlying31 (by kernel_rfl) (DecFs.cons decPlan rfl (DecFs.cons decPlan rfl (DecFs.cons decBytes rfl (DecFs.cons decInt rfl (DecFs.cons decMask rfl (DecFs.nil _))))))).map
    (fun x => (⟨x.1, x.2.1, x.2.2.1, x.2.2.2.1, x.2.2.2.2.1⟩ : CaseD10)) (fun _ => rfl) (fun x => by simp [bkCase10]; omega) (fun _ _ => trivial) (fun _ _ => rfl)
theorem caseSmall10 {x : CaseD10} (h : bkCase10 x ≤ 1048576) : x.Small := by
  unfold bkCase10 at h
  exact ⟨planSmall (by omega), planSmall (by omega), by omega⟩
end Go.Proofs.YtndoembhbfiokaaGreatDoor.Am
set_option linter.unusedVariables false
set_option linter.unusedSimpArgs false
namespace Go.Proofs.YtndoembhbfiokaaGreatDoor.Am
open Go.RowKit Go.Proofs

/-- A state that the document builds. -/
structure RBoot (H K : AH) (p : PlanD) (P R U O G : List AV) (S : AV) : Prop where
  plan : K.get H.nx = .row [encPlan p] 7 0
  st : K.get (H.nx + 2) = .row [.agg (stC p (.sl (H.nx + 3) P.length 0 P.length) (.sl (H.nx + 4) R.length 0 R.length) (.sl (H.nx + 7) G.length 0 G.length) (.sl (H.nx + 5) U.length 0 U.length) S (.sl (H.nx + 6) O.length 0 O.length))] 10 0
  hp : K.get (H.nx + 3) = .row P 21 P.length
  hr : K.get (H.nx + 4) = .row R 1 R.length
  hu : K.get (H.nx + 5) = .row U 1 U.length
  ho : K.get (H.nx + 6) = .row O 2 O.length
  hg : K.get (H.nx + 7) = .row G 66 G.length
  zr : K.get (H.nx + 1) = .row [.agg [.int .i64 0, .int .i64 0, .int .i64 0, .csl [], .csl [], .csl [], .csl [], .csl [], .csl [], .csl []]] 10 0
  keep : ∀ i, H.get i ≠ .free → K.get i = H.get i
def pgc (x : PageD) (k : Nat) : List AV := .int .i64 x.rights :: .bool false :: ((x.init.take k).map encB ++ zeros64.drop k)
theorem pgc_len {x : PageD} (h : x.init.length ≤ 64) {k : Nat} (hk : k ≤ x.init.length) : (pgc x k).length = 66 := by
  simp [pgc]; omega
theorem pgc_set {x : PageD} (h : x.init.length ≤ 64) {k : Nat} {b : UInt8} (hb : x.init[k]? = some b) : (pgc x k).set (k + 2) (encB b) = pgc x (k + 1) := by
  obtain ⟨hk, he⟩ := List.getElem?_eq_some_iff.1 hb
  have hz : zeros64.drop k = .int .u8 0 :: zeros64.drop (k + 1) := by
    have e : 64 - k = (64 - (k + 1)) + 1 := by omega
    rw [zeros64, List.drop_replicate, List.drop_replicate, e, List.replicate_succ]
  have hl : ((x.init.take k).map encB).length = k := by simp; omega
  unfold pgc
  rw [hz, List.set_cons_succ, List.set_cons_succ, List.set_append_right _ _ (by omega), hl, Nat.sub_self, List.set_cons_zero, List.take_add_one, hb]
  simp
theorem pgc_put {x : PageD} (h : x.init.length ≤ 64) {k : Nat} {b : UInt8} (hb : x.init[k]? = some b) : List.take (2 + k) (pgc x k) ++ .int .u8 b.toNat :: List.drop (2 + k + 1) (pgc x k) = pgc x (k + 1) := by
  obtain ⟨hk, _⟩ := List.getElem?_eq_some_iff.1 hb
  rw [← pgc_set h hb, List.set_eq_take_append_cons_drop, if_pos (by rw [pgc_len h (by omega)]; omega), Nat.add_comm k 2]; rfl
theorem Frz.stA {id ver : Nat} {zs : List AV} {p : PlanD} {P R G U S O P' R' G' U' S' O' : AV} (h1 : Frz id ver zs P P') (h2 : Frz id ver zs R R') (h3 : Frz id ver zs G G') (h4 : Frz id ver zs U U') (h5 : Frz id ver zs S S') (h6 : Frz id ver zs O O') :
    Frz id ver zs (.agg (stC p P R G U S O)) (.agg (stC p P' R' G' U' S' O')) := by
  refine .agg _ _ rfl fun j u v k1 k2 => ?_
  rcases j with _ | _ | _ | _ | _ | _ | _ | _ | _ | _ | j <;> simp [stC] at k1 k2 <;> subst k1 k2 <;> first | assumption | exact .refl _
set_option maxHeartbeats 4000000 in
theorem rBoot_spec {X : Ctx} (hS : Sent X) (p : PlanD) (hp : p.Small) (he : planE p = .none) : ACalc X 12 [encPlan p] (encState (bootD p)) := by
  intro H
  refine acalls' (N := 127) (rs := [.cell 2 39]) [46, 52, 63, 82, 124] (by rw [hS.P]; exact Tryz.func12) rfl rfl rfl (by decide) (by simp) ?_
  have f : ∀ k, H.get (H.nx + k) = .free := fun k => AH.free_add H k
  have hin := planIn he
  have h1 := hin.pages; have h2 := hin.procs; have h3 := hin.ports; have h4 := hin.sems; have h5 := hin.events
  simp [entryR, hS.P, AH.nx_put, show H.nx + 1 + 1 = H.nx + 2 from rfl]
  generalize hK : (AH.put _ (H.nx + 2) _) = K
  have g0 : K.get H.nx = .row [encPlan p] 7 0 := by rw [← hK]; simp
  have g2 : K.get (H.nx + 2) = .row [.agg [.int .i64 p.id, .int .i64 0, .int .i64 0, .csl [], .csl [], .csl [], .csl [], .csl [], .csl [], .csl []]] 10 0 := by rw [← hK]; simp
  have g1 : K.get (H.nx + 1) = .row [.agg [.int .i64 0, .int .i64 0, .int .i64 0, .csl [], .csl [], .csl [], .csl [], .csl [], .csl [], .csl []]] 10 0 := by rw [← hK]; simp
  have hk : ∀ i, H.get i ≠ .free → K.get i = H.get i := by rw [← hK]; exact put_keeps (f 2) (put_keeps (f 1) (put_keeps (by simp) (keeps_refl H)))
  have hKn : K.nx = H.nx + 3 := by rw [← hK]; simp [AH.nx_put]
  have start : ∃ L : AH, (∀ N r, Wk X N r K r L) ∧ RBoot H L p [] [] [] [] [] (.csl []) := by
    have w0 := fun N r => Wk.void (X := X) (N := N) (r := r) (H := K) 21
    rw [hKn] at w0
    have y1 : (K.put (H.nx + 3) (.row [] 21 0)).nx = H.nx + 4 := by rw [AH.nx_put, hKn, if_neg (by omega)]
    have w1 := fun N r => Wk.void (X := X) (N := N) (r := r) (H := (K.put (H.nx + 3) (.row [] 21 0))) 1
    rw [y1] at w1
    have y2 : ((K.put (H.nx + 3) (.row [] 21 0)).put (H.nx + 4) (.row [] 1 0)).nx = H.nx + 5 := by rw [AH.nx_put, y1, if_neg (by omega)]
    have w2 := fun N r => Wk.void (X := X) (N := N) (r := r) (H := ((K.put (H.nx + 3) (.row [] 21 0)).put (H.nx + 4) (.row [] 1 0))) 1
    rw [y2] at w2
    have y3 : (((K.put (H.nx + 3) (.row [] 21 0)).put (H.nx + 4) (.row [] 1 0)).put (H.nx + 5) (.row [] 1 0)).nx = H.nx + 6 := by rw [AH.nx_put, y2, if_neg (by omega)]
    have w3 := fun N r => Wk.void (X := X) (N := N) (r := r) (H := (((K.put (H.nx + 3) (.row [] 21 0)).put (H.nx + 4) (.row [] 1 0)).put (H.nx + 5) (.row [] 1 0))) 2
    rw [y3] at w3
    have y4 : ((((K.put (H.nx + 3) (.row [] 21 0)).put (H.nx + 4) (.row [] 1 0)).put (H.nx + 5) (.row [] 1 0)).put (H.nx + 6) (.row [] 2 0)).nx = H.nx + 7 := by rw [AH.nx_put, y3, if_neg (by omega)]
    have w4 := fun N r => Wk.void (X := X) (N := N) (r := r) (H := ((((K.put (H.nx + 3) (.row [] 21 0)).put (H.nx + 4) (.row [] 1 0)).put (H.nx + 5) (.row [] 1 0)).put (H.nx + 6) (.row [] 2 0))) 66
    rw [y4] at w4
    have y5 : (((((K.put (H.nx + 3) (.row [] 21 0)).put (H.nx + 4) (.row [] 1 0)).put (H.nx + 5) (.row [] 1 0)).put (H.nx + 6) (.row [] 2 0)).put (H.nx + 7) (.row [] 66 0)).nx = H.nx + 8 := by rw [AH.nx_put, y4, if_neg (by omega)]
    generalize hM : (((((K.put (H.nx + 3) (.row [] 21 0)).put (H.nx + 4) (.row [] 1 0)).put (H.nx + 5) (.row [] 1 0)).put (H.nx + 6) (.row [] 2 0)).put (H.nx + 7) (.row [] 66 0)) = M at w4
    have e0 : M.get H.nx = .row [encPlan p] 7 0 := by rw [← hM]; simp [g0]
    have e1 : M.get (H.nx + 1) = K.get (H.nx + 1) := by rw [← hM]; simp
    rw [g1] at e1
    have e2 : M.get (H.nx + 2) = .row [.agg (stC p (.csl []) (.csl []) (.csl []) (.csl []) (.csl []) (.csl []))] 10 0 := by rw [← hM]; simp [g2]; rfl
    have e3 : M.get (H.nx + 3) = .row [] 21 0 := by rw [← hM]; simp
    have e4 : M.get (H.nx + 4) = .row [] 1 0 := by rw [← hM]; simp
    have e5 : M.get (H.nx + 5) = .row [] 1 0 := by rw [← hM]; simp
    have e6 : M.get (H.nx + 6) = .row [] 2 0 := by rw [← hM]; simp
    have e7 : M.get (H.nx + 7) = .row [] 66 0 := by rw [← hM]; simp
    have ek : ∀ i, H.get i ≠ .free → M.get i = H.get i := by rw [← hM]; exact put_keeps (f 7) (put_keeps (f 6) (put_keeps (f 5) (put_keeps (f 4) (put_keeps (f 3) hk))))
    clear hM
    have u0 := fun N r => Wk.slot (X := X) (N := N) (r := r) (H := M) (id := H.nx + 2) (xs := [.agg (stC p (.csl []) (.csl []) (.csl []) (.csl []) (.csl []) (.csl []))]) (sz := 10) (ver := 0) [.agg ((stC p (.csl []) (.csl []) (.csl []) (.csl []) (.csl []) (.csl [])).set 3 (.sl (H.nx + 3) 0 0 0))] e2 rfl (cell_le 3 rfl (LeH.mat (id := H.nx + 3) (by rw [e3]; simp)))
    have u1 := fun N r => Wk.slot (X := X) (N := N) (r := r) (H := (M.put (H.nx + 2) (.row [.agg (stC p (.sl (H.nx + 3) 0 0 0) (.csl []) (.csl []) (.csl []) (.csl []) (.csl []))] 10 0))) (id := H.nx + 2) (xs := [.agg (stC p (.sl (H.nx + 3) 0 0 0) (.csl []) (.csl []) (.csl []) (.csl []) (.csl []))]) (sz := 10) (ver := 0) [.agg ((stC p (.sl (H.nx + 3) 0 0 0) (.csl []) (.csl []) (.csl []) (.csl []) (.csl [])).set 4 (.sl (H.nx + 4) 0 0 0))] (AH.put_same _ _ _) rfl (cell_le 4 rfl (LeH.mat (id := H.nx + 4) (by rw [AH.put_ne _ _ (by omega), e4]; simp)))
    have u2 := fun N r => Wk.slot (X := X) (N := N) (r := r) (H := ((M.put (H.nx + 2) (.row [.agg (stC p (.sl (H.nx + 3) 0 0 0) (.csl []) (.csl []) (.csl []) (.csl []) (.csl []))] 10 0)).put (H.nx + 2) (.row [.agg (stC p (.sl (H.nx + 3) 0 0 0) (.sl (H.nx + 4) 0 0 0) (.csl []) (.csl []) (.csl []) (.csl []))] 10 0))) (id := H.nx + 2) (xs := [.agg (stC p (.sl (H.nx + 3) 0 0 0) (.sl (H.nx + 4) 0 0 0) (.csl []) (.csl []) (.csl []) (.csl []))]) (sz := 10) (ver := 0) [.agg ((stC p (.sl (H.nx + 3) 0 0 0) (.sl (H.nx + 4) 0 0 0) (.csl []) (.csl []) (.csl []) (.csl [])).set 6 (.sl (H.nx + 5) 0 0 0))] (AH.put_same _ _ _) rfl (cell_le 6 rfl (LeH.mat (id := H.nx + 5) (by rw [AH.put_ne _ _ (by omega), AH.put_ne _ _ (by omega), e5]; simp)))
    have u3 := fun N r => Wk.slot (X := X) (N := N) (r := r) (H := (((M.put (H.nx + 2) (.row [.agg (stC p (.sl (H.nx + 3) 0 0 0) (.csl []) (.csl []) (.csl []) (.csl []) (.csl []))] 10 0)).put (H.nx + 2) (.row [.agg (stC p (.sl (H.nx + 3) 0 0 0) (.sl (H.nx + 4) 0 0 0) (.csl []) (.csl []) (.csl []) (.csl []))] 10 0)).put (H.nx + 2) (.row [.agg (stC p (.sl (H.nx + 3) 0 0 0) (.sl (H.nx + 4) 0 0 0) (.csl []) (.sl (H.nx + 5) 0 0 0) (.csl []) (.csl []))] 10 0))) (id := H.nx + 2) (xs := [.agg (stC p (.sl (H.nx + 3) 0 0 0) (.sl (H.nx + 4) 0 0 0) (.csl []) (.sl (H.nx + 5) 0 0 0) (.csl []) (.csl []))]) (sz := 10) (ver := 0) [.agg ((stC p (.sl (H.nx + 3) 0 0 0) (.sl (H.nx + 4) 0 0 0) (.csl []) (.sl (H.nx + 5) 0 0 0) (.csl []) (.csl [])).set 8 (.sl (H.nx + 6) 0 0 0))] (AH.put_same _ _ _) rfl (cell_le 8 rfl (LeH.mat (id := H.nx + 6) (by rw [AH.put_ne _ _ (by omega), AH.put_ne _ _ (by omega), AH.put_ne _ _ (by omega), e6]; simp)))
    have u4 := fun N r => Wk.slot (X := X) (N := N) (r := r) (H := ((((M.put (H.nx + 2) (.row [.agg (stC p (.sl (H.nx + 3) 0 0 0) (.csl []) (.csl []) (.csl []) (.csl []) (.csl []))] 10 0)).put (H.nx + 2) (.row [.agg (stC p (.sl (H.nx + 3) 0 0 0) (.sl (H.nx + 4) 0 0 0) (.csl []) (.csl []) (.csl []) (.csl []))] 10 0)).put (H.nx + 2) (.row [.agg (stC p (.sl (H.nx + 3) 0 0 0) (.sl (H.nx + 4) 0 0 0) (.csl []) (.sl (H.nx + 5) 0 0 0) (.csl []) (.csl []))] 10 0)).put (H.nx + 2) (.row [.agg (stC p (.sl (H.nx + 3) 0 0 0) (.sl (H.nx + 4) 0 0 0) (.csl []) (.sl (H.nx + 5) 0 0 0) (.csl []) (.sl (H.nx + 6) 0 0 0))] 10 0))) (id := H.nx + 2) (xs := [.agg (stC p (.sl (H.nx + 3) 0 0 0) (.sl (H.nx + 4) 0 0 0) (.csl []) (.sl (H.nx + 5) 0 0 0) (.csl []) (.sl (H.nx + 6) 0 0 0))]) (sz := 10) (ver := 0) [.agg ((stC p (.sl (H.nx + 3) 0 0 0) (.sl (H.nx + 4) 0 0 0) (.csl []) (.sl (H.nx + 5) 0 0 0) (.csl []) (.sl (H.nx + 6) 0 0 0)).set 9 (.sl (H.nx + 7) 0 0 0))] (AH.put_same _ _ _) rfl (cell_le 9 rfl (LeH.mat (id := H.nx + 7) (by rw [AH.put_ne _ _ (by omega), AH.put_ne _ _ (by omega), AH.put_ne _ _ (by omega), AH.put_ne _ _ (by omega), e7]; simp)))
    refine ⟨_, fun N r => (w0 N r).trans ((w1 N r).trans ((w2 N r).trans ((w3 N r).trans ((w4 N r).trans ((u0 N r).trans ((u1 N r).trans ((u2 N r).trans ((u3 N r).trans (u4 N r))))))))), ?_, ?_, ?_, ?_, ?_, ?_, ?_, ?_, ?_⟩
    · simp [e0]
    · rw [AH.put_same]; rfl
    · simp [e3]
    · simp [e4]
    · simp [e5]
    · simp [e6]
    · simp [e7]
    · simp [e1]
    · exact put_keeps (f 2) (put_keeps (f 2) (put_keeps (f 2) (put_keeps (f 2) (put_keeps (f 2) ek))))
  obtain ⟨L, hwk, hB⟩ := start
  clear hK hk g0 g1 g2 hKn
  refine AWp.loop (S := Nat × AH) (fun s => s.1 ≤ p.procs.length ∧ RBoot H s.2 p ((p.procs.take s.1).map fun x => encProcS (bootProc x)) ((readyL (p.procs.take s.1) 0).map encInt) [] [] [] (.csl []))
    (fun s => [(1, .ptr H.nx 0 0 0), (2, .ptr (H.nx + 1) 0 0 0), (3, .ptr (H.nx + 2) 0 0 0), (4, .int .i64 s.1)]) (fun s => s.2) (fun s => p.procs.length - s.1) (0, L) ⟨Nat.zero_le _, by simpa [readyL] using hB⟩ ((hwk _ _).trans (Wk.regs (by simp))) fun s hs => ?_
  clear hwk hB
  obtain ⟨n, K⟩ := s
  obtain ⟨hn, hB⟩ := hs
  simp only at hn hB
  refine aC_sound (lv := [46, 52, 63, 82, 124]) _ _ _ _ ?_
  simp [hS.P, hB.plan]
  refine aCond_dec (fun hlt => ?_) (fun hge => ?_)
  · obtain ⟨x, hx⟩ : ∃ x, p.procs[n]? = some x := ⟨p.procs[n], List.getElem?_eq_getElem (by omega)⟩
    have hxi := hin.proc x (List.mem_of_getElem? hx)
    have hKn : H.nx + 7 < K.nx := AH.lt_nx (AH.ne_free hB.hg)
    have w1 : IntKind.u32.wrap x.entry = x.entry := by rw [wrapu32_mod]; omega
    obtain ⟨b1, b2, b3, b4, b5, b6, b7, bz, b0⟩ := hB
    have r1 := readyL_take hx
    have r2 := readyL_len (p.procs.take n) 0
    have r3 : (p.procs.take n).length = n := by simp; omega
    generalize hP : ((p.procs.take n).map fun x => encProcS (bootProc x)) = P at b2 b3
    have hPl : P.length = n := by rw [← hP]; simp; omega
    generalize hR : (readyL (p.procs.take n) 0).map encInt = R at b2 b4
    have hRl : R.length ≤ n := by rw [← hR]; simp; omega
    have a0 : ¬ H.nx = K.nx := by omega
    have d0 : ¬ K.nx = H.nx := by omega
    have a1 : ¬ H.nx + 1 = K.nx := by omega
    have d1 : ¬ K.nx = H.nx + 1 := by omega
    have a2 : ¬ H.nx + 2 = K.nx := by omega
    have d2 : ¬ K.nx = H.nx + 2 := by omega
    have a3 : ¬ H.nx + 3 = K.nx := by omega
    have d3 : ¬ K.nx = H.nx + 3 := by omega
    have a4 : ¬ H.nx + 4 = K.nx := by omega
    have d4 : ¬ K.nx = H.nx + 4 := by omega
    have a5 : ¬ H.nx + 5 = K.nx := by omega
    have d5 : ¬ K.nx = H.nx + 5 := by omega
    have a6 : ¬ H.nx + 6 = K.nx := by omega
    have d6 : ¬ K.nx = H.nx + 6 := by omega
    have a7 : ¬ H.nx + 7 = K.nx := by omega
    have d7 : ¬ K.nx = H.nx + 7 := by omega
    simp [hS.P]
    rw [aC_draw (hc := by kernel_rfl)]
    simp [hS.P, hx, w1, b1, b2, b3, b4, b5, b6, b7, stC, a0, a1, a2, a3, a4, a5, a6, a7, d0, d1, d2, d3, d4, d5, d6, d7]
    refine aIf_mk ?_ ?_
    · simp [chkH, a0, a1, a2, a3, a4, a5, a6, a7, d0, d1, d2, d3, d4, d5, d6, d7]
      exact (show reach _ 4 15 14 = true from by kernel_rfl)
    simp [hS.P, hx, w1, b1, b2, b3, b4, b5, b6, b7, stC, a0, a1, a2, a3, a4, a5, a6, a7, d0, d1, d2, d3, d4, d5, d6, d7]
    cases hau : x.auto with
    | true =>
      simp [hS.P, hx, hau, w1, b1, b2, b3, b4, b5, b6, b7, stC, a0, a1, a2, a3, a4, a5, a6, a7, d0, d1, d2, d3, d4, d5, d6, d7]
      refine aIf_mk (by omega) ?_
      simp [hS.P, hx, hau, w1, b1, b2, b3, b4, b5, b6, b7, stC, a0, a1, a2, a3, a4, a5, a6, a7, d0, d1, d2, d3, d4, d5, d6, d7]
      refine aIf_mk (by omega) ?_
      simp [hS.P, hx, hau, w1, b1, b2, b3, b4, b5, b6, b7, stC, a0, a1, a2, a3, a4, a5, a6, a7, d0, d1, d2, d3, d4, d5, d6, d7]
      have hPe : ((p.procs.take (n + 1)).map fun x => encProcS (bootProc x)) = P ++ [encProcS (bootProc x)] := by rw [← hP]; simp [List.take_add_one, hx]
      have hRe : (readyL (p.procs.take (n + 1)) 0).map encInt = R ++ [.int .i64 n] := by rw [r1, hau, List.map_append, hR]; simp [encInt]
      have hbp : encProcS (bootProc x) = .agg [.int .u32 0, .int .u32 0, .int .u32 0, .int .u32 0, .int .u32 0, .int .u32 0, .int .u32 0, .int .u32 0, .int .u32 0, .int .u32 0, .int .u32 0, .int .u32 0, .int .u32 0, .int .u32 0, .int .u32 0, .int .u32 0, .int .u32 x.entry, .int .i64 1, .int .i64 x.prio, .int .i64 0, .int .i64 0] := by unfold bootProc; rw [hau]; rfl
      refine ⟨n + 1, _, ⟨by omega, ?_⟩, by omega, Wk.regs (by simp [wrap1 (n := n) (by omega)])⟩
      rw [← List.map_take, hPe, hRe, hbp]
      exact ⟨by simp [b1, a0, a1, a2, a3, a4, a5, a6, a7, d0, d1, d2, d3, d4, d5, d6, d7], by simp [stC, a0, a1, a2, a3, a4, a5, a6, a7, d0, d1, d2, d3, d4, d5, d6, d7], by simp [b3, a0, a1, a2, a3, a4, a5, a6, a7, d0, d1, d2, d3, d4, d5, d6, d7], by simp [b4, a0, a1, a2, a3, a4, a5, a6, a7, d0, d1, d2, d3, d4, d5, d6, d7], by simp [b5, a0, a1, a2, a3, a4, a5, a6, a7, d0, d1, d2, d3, d4, d5, d6, d7], by simp [b6, a0, a1, a2, a3, a4, a5, a6, a7, d0, d1, d2, d3, d4, d5, d6, d7], by simp [b7, a0, a1, a2, a3, a4, a5, a6, a7, d0, d1, d2, d3, d4, d5, d6, d7], by simp [bz, a0, a1, a2, a3, a4, a5, a6, a7, d0, d1, d2, d3, d4, d5, d6, d7], by repeat (first | exact b0 | refine put_keeps (by first | exact f _ | exact keepsNx b0) ?_)⟩
    | false =>
      simp [hS.P, hx, hau, w1, b1, b2, b3, b4, b5, b6, b7, stC, a0, a1, a2, a3, a4, a5, a6, a7, d0, d1, d2, d3, d4, d5, d6, d7]
      refine aIf_mk (by omega) ?_
      simp [hS.P, hx, hau, w1, b1, b2, b3, b4, b5, b6, b7, stC, a0, a1, a2, a3, a4, a5, a6, a7, d0, d1, d2, d3, d4, d5, d6, d7]
      have hPe : ((p.procs.take (n + 1)).map fun x => encProcS (bootProc x)) = P ++ [encProcS (bootProc x)] := by rw [← hP]; simp [List.take_add_one, hx]
      have hRe : (readyL (p.procs.take (n + 1)) 0).map encInt = R := by rw [r1, hau, List.map_append, hR]; simp [encInt]
      have hbp : encProcS (bootProc x) = .agg [.int .u32 0, .int .u32 0, .int .u32 0, .int .u32 0, .int .u32 0, .int .u32 0, .int .u32 0, .int .u32 0, .int .u32 0, .int .u32 0, .int .u32 0, .int .u32 0, .int .u32 0, .int .u32 0, .int .u32 0, .int .u32 0, .int .u32 x.entry, .int .i64 0, .int .i64 x.prio, .int .i64 0, .int .i64 0] := by unfold bootProc; rw [hau]; rfl
      refine ⟨n + 1, _, ⟨by omega, ?_⟩, by omega, Wk.regs (by simp [wrap1 (n := n) (by omega)])⟩
      rw [← List.map_take, hPe, hRe, hbp]
      exact ⟨by simp [b1, a0, a1, a2, a3, a4, a5, a6, a7, d0, d1, d2, d3, d4, d5, d6, d7], by simp [stC, a0, a1, a2, a3, a4, a5, a6, a7, d0, d1, d2, d3, d4, d5, d6, d7], by simp [b3, a0, a1, a2, a3, a4, a5, a6, a7, d0, d1, d2, d3, d4, d5, d6, d7], by simp [b4, a0, a1, a2, a3, a4, a5, a6, a7, d0, d1, d2, d3, d4, d5, d6, d7], by simp [b5, a0, a1, a2, a3, a4, a5, a6, a7, d0, d1, d2, d3, d4, d5, d6, d7], by simp [b6, a0, a1, a2, a3, a4, a5, a6, a7, d0, d1, d2, d3, d4, d5, d6, d7], by simp [b7, a0, a1, a2, a3, a4, a5, a6, a7, d0, d1, d2, d3, d4, d5, d6, d7], by simp [bz, a0, a1, a2, a3, a4, a5, a6, a7, d0, d1, d2, d3, d4, d5, d6, d7], by repeat (first | exact b0 | refine put_keeps (by first | exact f _ | exact keepsNx b0) ?_)⟩
  have hn' : n = p.procs.length := by omega
  rw [hn', List.take_length] at hB
  clear hn' hge hn
  simp [hS.P]
  generalize hP : (p.procs.map fun x => encProcS (bootProc x)) = P at hB
  generalize hR : (readyL p.procs 0).map encInt = R at hB
  refine AWp.loop (S := Nat × AH) (fun s => s.1 ≤ p.events.toNat ∧ RBoot H s.2 p P R (List.replicate s.1 (.bool false)) [] [] (.csl []))
    (fun s => [(1, .ptr H.nx 0 0 0), (2, .ptr (H.nx + 1) 0 0 0), (3, .ptr (H.nx + 2) 0 0 0), (6, .int .i64 s.1)]) (fun s => s.2) (fun s => p.events.toNat - s.1) (0, K) ⟨Nat.zero_le _, by simpa using hB⟩ (Wk.regs (by simp)) fun s hs => ?_
  clear hB
  obtain ⟨n, K⟩ := s
  obtain ⟨hn, hB⟩ := hs
  simp only at hn hB
  refine aC_sound (lv := [46, 52, 63, 82, 124]) _ _ _ _ ?_
  simp [hS.P, hB.plan]
  refine aCond_dec (fun hlt => ?_) (fun hge => ?_)
  · obtain ⟨b1, b2, b3, b4, b5, b6, b7, bz, b0⟩ := hB
    simp [hS.P, b1, b2, b5, stC]
    refine aIf_mk (by omega) ?_
    simp [hS.P, b1, b2, b5, stC]
    refine ⟨n + 1, _, ⟨by omega, ?_⟩, by omega, Wk.regs (by simp [wrap1 (n := n) (by omega)])⟩
    exact ⟨by simp [b1], by simp [stC], by simp [b3], by simp [b4], by simp [List.replicate_succ'], by simp [b6], by simp [b7], by simp [bz], by repeat (first | exact b0 | refine put_keeps (by first | exact f _ | exact keepsNx b0) ?_)⟩
  obtain rfl : n = p.events.toNat := by omega
  clear hge hn
  obtain ⟨b1, b2, b3, b4, b5, b6, b7, bz, b0⟩ := hB
  generalize hU : List.replicate p.events.toNat (AV.bool false) = U at b2 b5
  simp [hS.P, b1, b2, stC]
  refine aIf_mk ⟨fun a _ => ⟨rfl, by simp [encInt]⟩, by omega⟩ ?_
  simp [hS.P, b1, b2, stC]
  generalize hK2 : (AH.put K (H.nx + 2) _) = K2
  have hB : RBoot H K2 p P R U [] [] (.fsl (p.sems.map encInt)) := by
    rw [← hK2]
    exact ⟨by simp [b1], by simp [stC], by simp [b3], by simp [b4], by simp [b5], by simp [b6], by simp [b7], by simp [bz], by repeat (first | exact b0 | refine put_keeps (by first | exact f _ | exact keepsNx b0) ?_)⟩
  clear hK2 b1 b2 b3 b4 b5 b6 b7 bz b0
  refine AWp.loop (S := Nat × AH) (fun s => s.1 ≤ p.ports.length ∧ RBoot H s.2 p P R U (List.replicate s.1 portZero) [] (.fsl (p.sems.map encInt)))
    (fun s => [(1, .ptr H.nx 0 0 0), (2, .ptr (H.nx + 1) 0 0 0), (3, .ptr (H.nx + 2) 0 0 0), (7, .int .i64 s.1)]) (fun s => s.2) (fun s => p.ports.length - s.1) (0, K2) ⟨Nat.zero_le _, by simpa using hB⟩ (Wk.regs (by simp)) fun s hs => ?_
  clear hB
  obtain ⟨n, K⟩ := s
  obtain ⟨hn, hB⟩ := hs
  simp only at hn hB
  refine aC_sound (lv := [46, 52, 63, 82, 124]) _ _ _ _ ?_
  simp [hS.P, hB.plan]
  refine aCond_dec (fun hlt => ?_) (fun hge => ?_)
  · obtain ⟨b1, b2, b3, b4, b5, b6, b7, bz, b0⟩ := hB
    simp [hS.P, b1, b2, b6, stC]
    refine aIf_mk (by omega) ?_
    simp [hS.P, b1, b2, b6, stC]
    refine ⟨n + 1, _, ⟨by omega, ?_⟩, by omega, Wk.regs (by simp [wrap1 (n := n) (by omega)])⟩
    exact ⟨by simp [b1], by simp [stC], by simp [b3], by simp [b4], by simp [b5], by simp [List.replicate_succ', portZero], by simp [b7], by simp [bz], by repeat (first | exact b0 | refine put_keeps (by first | exact f _ | exact keepsNx b0) ?_)⟩
  obtain rfl : n = p.ports.length := by omega
  clear hge hn
  generalize hO : List.replicate p.ports.length portZero = O at hB
  simp [hS.P]
  refine AWp.loop (S := Nat × AH) (fun s => s.1 ≤ p.pages.length ∧ RBoot H s.2 p P R U O ((p.pages.take s.1).map fun x => encPageS (bootPage x)) (.fsl (p.sems.map encInt)))
    (fun s => [(1, .ptr H.nx 0 0 0), (2, .ptr (H.nx + 1) 0 0 0), (3, .ptr (H.nx + 2) 0 0 0), (8, .int .i64 s.1)]) (fun s => s.2) (fun s => p.pages.length - s.1) (0, K) ⟨Nat.zero_le _, by simpa using hB⟩ (Wk.regs (by simp)) fun s hs => ?_
  clear hB
  obtain ⟨n, K⟩ := s
  obtain ⟨hn, hB⟩ := hs
  simp only at hn hB
  refine aC_sound (lv := [46, 52, 63, 82, 124]) _ _ _ _ ?_
  simp [hS.P, hB.plan]
  refine aCond_dec (fun hlt => ?_) (fun hge => ?_)
  · obtain ⟨x, hx⟩ : ∃ x, p.pages[n]? = some x := ⟨p.pages[n], List.getElem?_eq_getElem (by omega)⟩
    have hxi := hin.page x (List.mem_of_getElem? hx)
    have hKn : H.nx + 7 < K.nx := AH.lt_nx (AH.ne_free hB.hg)
    obtain ⟨b1, b2, b3, b4, b5, b6, b7, bz, b0⟩ := hB
    generalize hG : ((p.pages.take n).map fun x => encPageS (bootPage x)) = G at b2 b7
    have hGl : G.length = n := by rw [← hG]; simp; omega
    have a0 : ¬ H.nx = K.nx := by omega
    have d0 : ¬ K.nx = H.nx := by omega
    have a1 : ¬ H.nx + 1 = K.nx := by omega
    have d1 : ¬ K.nx = H.nx + 1 := by omega
    have a2 : ¬ H.nx + 2 = K.nx := by omega
    have d2 : ¬ K.nx = H.nx + 2 := by omega
    have a3 : ¬ H.nx + 3 = K.nx := by omega
    have d3 : ¬ K.nx = H.nx + 3 := by omega
    have a4 : ¬ H.nx + 4 = K.nx := by omega
    have d4 : ¬ K.nx = H.nx + 4 := by omega
    have a5 : ¬ H.nx + 5 = K.nx := by omega
    have d5 : ¬ K.nx = H.nx + 5 := by omega
    have a6 : ¬ H.nx + 6 = K.nx := by omega
    have d6 : ¬ K.nx = H.nx + 6 := by omega
    have a7 : ¬ H.nx + 7 = K.nx := by omega
    have d7 : ¬ K.nx = H.nx + 7 := by omega
    simp [-ze73, -plc73, zePage, plcPage, hS.P, hx, b1, b2, b3, b4, b5, b6, b7, stC, a0, a1, a2, a3, a4, a5, a6, a7, d0, d1, d2, d3, d4, d5, d6, d7]
    refine aIf_mk (fun x hx => by rw [List.eq_of_mem_replicate hx]; rfl) ?_
    simp [-ze73, -plc73, zePage, plcPage, hS.P, hx, b1, b2, b3, b4, b5, b6, b7, stC, a0, a1, a2, a3, a4, a5, a6, a7, d0, d1, d2, d3, d4, d5, d6, d7]
    generalize hM : (AH.put K K.nx _) = M
    have e9 : M.get K.nx = .row [.agg (pgc x 0)] 66 0 := by rw [← hM, AH.put_same]; simp [pgc]
    have hB : RBoot H M p P R U O G (.fsl (p.sems.map encInt)) := by
      rw [← hM]
      exact ⟨by simp [b1, a0, a1, a2, a3, a4, a5, a6, a7, d0, d1, d2, d3, d4, d5, d6, d7], by simp [b2, a0, a1, a2, a3, a4, a5, a6, a7, d0, d1, d2, d3, d4, d5, d6, d7], by simp [b3, a0, a1, a2, a3, a4, a5, a6, a7, d0, d1, d2, d3, d4, d5, d6, d7], by simp [b4, a0, a1, a2, a3, a4, a5, a6, a7, d0, d1, d2, d3, d4, d5, d6, d7], by simp [b5, a0, a1, a2, a3, a4, a5, a6, a7, d0, d1, d2, d3, d4, d5, d6, d7], by simp [b6, a0, a1, a2, a3, a4, a5, a6, a7, d0, d1, d2, d3, d4, d5, d6, d7], by simp [b7, a0, a1, a2, a3, a4, a5, a6, a7, d0, d1, d2, d3, d4, d5, d6, d7], by simp [bz, a0, a1, a2, a3, a4, a5, a6, a7, d0, d1, d2, d3, d4, d5, d6, d7], put_keeps (keepsNx b0) b0⟩
    clear hM b1 b2 b3 b4 b5 b6 b7 bz b0
    have hqf : H.get K.nx = .free := H.wf _ (by omega)
    generalize K.nx = q at *
    have q0 := a0; have q1 := a1; have q2 := a2; have q3 := a3; have q4 := a4; have q5 := a5; have q6 := a6; have q7 := a7
    clear K
    refine AWp.loop (S := Nat × AH) (fun s => s.1 ≤ x.init.length ∧ s.2.get q = .row [.agg (pgc x s.1)] 66 0 ∧ RBoot H s.2 p P R U O G (.fsl (p.sems.map encInt)))
      (fun s => [(1, .ptr H.nx 0 0 0), (2, .ptr (H.nx + 1) 0 0 0), (3, .ptr (H.nx + 2) 0 0 0), (8, .int .i64 n), (9, .ptr q 0 0 0), (10, .int .i64 s.1)]) (fun s => s.2) (fun s => x.init.length - s.1) (0, M) ⟨Nat.zero_le _, e9, hB⟩ (Wk.regs (by simp)) fun s hs => ?_
    clear e9 hB M
    obtain ⟨k, M⟩ := s
    obtain ⟨hk, e9, b1, b2, b3, b4, b5, b6, b7, bz, b0⟩ := hs
    simp only at hk e9 b1 b2 b3 b4 b5 b6 b7 bz b0
    refine aC_sound (lv := [46, 52, 63, 82, 124]) _ _ _ _ ?_
    simp [hS.P, b1, hx]
    refine aCond_dec (fun hkl => ?_) (fun hkg => ?_)
    · obtain ⟨b, hb⟩ : ∃ b, x.init[k]? = some b := ⟨x.init[k], List.getElem?_eq_getElem (by omega)⟩
      have hpl := pgc_len hxi.2.2 (k := k) (by omega)
      have hps := pgc_set hxi.2.2 hb
      simp [hS.P, b1, hx, hb, e9]
      refine aIf_mk (by omega) ?_
      simp [hS.P, b1, hx, hb, e9, hpl]
      refine aIf_mk (by omega) ?_
      simp [hS.P, b1, hx, hb, e9, hpl]
      refine ⟨k + 1, _, ⟨by omega, ?_, ?_⟩, by omega, Wk.regs (by simp [wrap1 (n := k) (by omega)])⟩
      · rw [AH.put_same, pgc_put hxi.2.2 hb]
      · exact ⟨by simp [b1, q0], by simp [b2, q2], by simp [b3, q3], by simp [b4, q4], by simp [b5, q5], by simp [b6, q6], by simp [b7, q7], by simp [bz, q1], put_keeps hqf b0⟩
    · obtain rfl : k = x.init.length := by omega
      have hpe : pgc x x.init.length = (encPageS (bootPage x)).cells := by
        rw [encPageS_cells, pgc, zeros_drop, List.take_length]; simp [bootPage]
      have hpcl := pgc_len hxi.2.2 (Nat.le_refl _)
      have hpc1 : ∀ c ∈ pgc x x.init.length, c.one = true := by
        intro c hc; rw [hpe, encPageS_cells] at hc; simp at hc
        rcases hc with rfl | rfl | ⟨b, _, rfl⟩ <;> rfl
      have hpcg : AV.agg (encPageS (bootPage x)).cells = encPageS (bootPage x) := rfl
      have hGe : ((p.pages.take (n + 1)).map fun x => encPageS (bootPage x)) = G ++ [.agg (pgc x x.init.length)] := by rw [← hG, hpe, hpcg]; simp [List.take_add_one, hx]
      generalize pgc x x.init.length = pc at hpcl hpc1 hGe e9
      have hpct : pc.take 66 = pc := List.take_of_length_le (by omega)
      simp [hS.P, b1, b2, b7, e9, stC, hpcl, hpct]
      refine aIf_mk hpc1 ?_
      simp [hS.P, b1, b2, b7, e9, stC, hpcl, hpct]
      refine aIf_mk (by omega) ?_
      simp [hS.P, b1, b2, b7, e9, stC, hpcl, hpct]
      refine ⟨n + 1, _, ⟨by omega, ?_⟩, by omega, Wk.regs (by simp [wrap1 (n := n) (by omega)])⟩
      rw [← List.map_take, hGe]
      exact ⟨by simp [b1], by simp [stC], by simp [b3], by simp [b4], by simp [b5], by simp [b6], by simp, by simp [bz], by repeat (first | exact b0 | refine put_keeps (by first | exact f _ | exact keepsNx b0) ?_)⟩
  obtain rfl : n = p.pages.length := by omega
  rw [List.take_length] at hB
  clear hge hn
  generalize hG : (p.pages.map fun x => encPageS (bootPage x)) = G at hB
  obtain ⟨b1, b2, b3, b4, b5, b6, b7, bz, b0⟩ := hB
  simp [hS.P, b2, bz, stC]
  refine Leave.frz (id := H.nx + 3) (ver := P.length) (sz := 21) (zs := P) (v' := .agg (stC p (.fsl P) (.sl (H.nx + 4) R.length 0 R.length) (.sl (H.nx + 7) G.length 0 G.length) (.sl (H.nx + 5) U.length 0 U.length) (.fsl (p.sems.map encInt)) (.sl (H.nx + 6) O.length 0 O.length))) (by repeat (first | exact b3 | refine (AH.put_ne _ _ (by omega)).trans ?_)) (Frz.stA (Frz.all rfl) (.refl _) (.refl _) (.refl _) (.refl _) (.refl _)) ?_
  refine Leave.frz (id := H.nx + 4) (ver := R.length) (sz := 1) (zs := R) (v' := .agg (stC p (.fsl P) (.fsl R) (.sl (H.nx + 7) G.length 0 G.length) (.sl (H.nx + 5) U.length 0 U.length) (.fsl (p.sems.map encInt)) (.sl (H.nx + 6) O.length 0 O.length))) (by repeat (first | exact b4 | refine (AH.put_ne _ _ (by omega)).trans ?_)) (Frz.stA (.refl _) (Frz.all rfl) (.refl _) (.refl _) (.refl _) (.refl _)) ?_
  refine Leave.frz (id := H.nx + 7) (ver := G.length) (sz := 66) (zs := G) (v' := .agg (stC p (.fsl P) (.fsl R) (.fsl G) (.sl (H.nx + 5) U.length 0 U.length) (.fsl (p.sems.map encInt)) (.sl (H.nx + 6) O.length 0 O.length))) (by repeat (first | exact b7 | refine (AH.put_ne _ _ (by omega)).trans ?_)) (Frz.stA (.refl _) (.refl _) (Frz.all rfl) (.refl _) (.refl _) (.refl _)) ?_
  refine Leave.frz (id := H.nx + 5) (ver := U.length) (sz := 1) (zs := U) (v' := .agg (stC p (.fsl P) (.fsl R) (.fsl G) (.fsl U) (.fsl (p.sems.map encInt)) (.sl (H.nx + 6) O.length 0 O.length))) (by repeat (first | exact b5 | refine (AH.put_ne _ _ (by omega)).trans ?_)) (Frz.stA (.refl _) (.refl _) (.refl _) (Frz.all rfl) (.refl _) (.refl _)) ?_
  refine Leave.frz (id := H.nx + 6) (ver := O.length) (sz := 2) (zs := O) (v' := .agg (stC p (.fsl P) (.fsl R) (.fsl G) (.fsl U) (.fsl (p.sems.map encInt)) (.fsl O))) (by repeat (first | exact b6 | refine (AH.put_ne _ _ (by omega)).trans ?_)) (Frz.stA (.refl _) (.refl _) (.refl _) (.refl _) (.refl _) (Frz.all rfl)) ?_
  have hup : U = (List.replicate p.events.toNat false).map AV.bool := by rw [← hU]; simp
  have hPe : P = (p.procs.map bootProc).map encProcS := by rw [← hP]; simp
  have hGe : G = (p.pages.map bootPage).map encPageS := by rw [← hG]; simp
  refine Leave.le (v' := encState (bootD p)) ?_ ?_
  · exact Le.aggL ⟨Le.refl _, Le.refl _, Le.refl _, Le.eq (by rw [hPe]; rfl), Le.eq (by rw [← hR]; rfl), Le.csl [], Le.eq (by rw [hup]; rfl), Le.refl _, by rw [← hO]; exact le_port _, Le.eq (by rw [hGe]; rfl), trivial⟩
  · exact Leave.data (by repeat (first | exact b0 | refine put_keeps (by first | exact f _) ?_)) (by simp) ⟨rfl, rfl⟩
end Go.Proofs.YtndoembhbfiokaaGreatDoor.Am
set_option linter.unusedVariables false
set_option linter.unusedSimpArgs false
namespace Go.Proofs.YtndoembhbfiokaaGreatDoor.Am
open Go.RowKit Go.Proofs

/-! ### The document's rules of a state (ferryref11) -/
structure StateD.WF (s : StateD) : Prop where
  regs : ∀ x ∈ s.procs, x.regs.length = 16
  data : ∀ x ∈ s.pages, x.data.length = 64
  procs : s.procs.length ≤ 1073741824
  ready : s.ready.length ≤ 1073741824
  timers : s.timers.length ≤ 1073741824
  up : s.up.length ≤ 1073741824
  sems : s.sems.length ≤ 1073741824
  ports : s.ports.length ≤ 1073741824
  pages : s.pages.length ≤ 1073741824
  msgs : ∀ x ∈ s.ports, x.msgs.length ≤ 1073741824
theorem regs16 {l : List Int} (h : l.length = 16) : ∃ a0 a1 a2 a3 a4 a5 a6 a7 a8 a9 a10 a11 a12 a13 a14 a15, l = [a0, a1, a2, a3, a4, a5, a6, a7, a8, a9, a10, a11, a12, a13, a14, a15] := by
  match l, h with
  | [a0, a1, a2, a3, a4, a5, a6, a7, a8, a9, a10, a11, a12, a13, a14, a15], _ => exact ⟨a0, a1, a2, a3, a4, a5, a6, a7, a8, a9, a10, a11, a12, a13, a14, a15, rfl⟩
theorem all_drop {A : Type} {l : List A} {k : Nat} {x : A} (h : l[k]? = some x) (f : A → Bool) : (l.drop k).all f = (f x && (l.drop (k + 1)).all f) := by
  obtain ⟨h1, h2⟩ := List.getElem?_eq_some_iff.1 h
  rw [List.drop_eq_getElem_cons h1, h2]; rfl
def r4P (x : ProcS) : Bool := decide (x.regs[0]? = some 0) && decide (0 ≤ x.state ∧ x.state ≤ 3) && decide (0 ≤ x.prio ∧ x.prio ≤ 255) && decide (0 ≤ x.wait ∧ x.wait ≤ 4)
set_option maxRecDepth 4000 in
theorem rule4_spec {X : Ctx} (hS : Sent X) (s : StateD) (hs : s.WF) : ACalc X 129 [encState s] (.bool (s.procs.all r4P)) := by
  intro H
  refine acalls' (N := 51) (rs := [.tmp 2]) [] (by rw [hS.P]; exact Tryz.func129) rfl rfl rfl (by decide) (by simp) ?_
  simp [entryR, hS.P]
  refine AWp.loop (S := Nat × AH) (fun t => t.1 ≤ s.procs.length ∧ s.procs.all r4P = (s.procs.drop t.1).all r4P ∧ t.2.get H.nx = .row [encState s] 10 0 ∧ ∀ i, H.get i ≠ .free → t.2.get i = H.get i)
    (fun t => [(1, .ptr H.nx 0 0 0), (3, .int .i64 t.1)]) (fun t => t.2) (fun t => s.procs.length - t.1) (0, H.put H.nx (.row [encState s] 10 0)) ⟨Nat.zero_le _, rfl, AH.put_same _ _ _, put_keeps (AH.fresh H) (keeps_refl H)⟩ (Wk.regs (by simp)) fun t ht => ?_
  obtain ⟨k, K⟩ := t
  obtain ⟨hk1, hk2, g0, hk⟩ := ht
  simp only at hk1 hk2 g0 hk
  have hl := hs.procs
  refine aC_sound (lv := []) _ _ _ _ ?_
  simp [hS.P, g0]
  refine aCond_dec (fun hlt => ?_) (fun hge => ?_)
  · obtain ⟨x, hx⟩ : ∃ x, s.procs[k]? = some x := ⟨s.procs[k], List.getElem?_eq_getElem hlt⟩
    have hd := all_drop hx r4P
    obtain ⟨a0, a1, a2, a3, a4, a5, a6, a7, a8, a9, a10, a11, a12, a13, a14, a15, hr⟩ := regs16 (hs.regs x (List.mem_of_getElem? hx))
    have hm := AH.lt_nx (AH.ne_free g0)
    have n0 : ¬ H.nx = K.nx := by omega
    have hbad : r4P x = false → (r4P x && (s.procs.drop (k + 1)).all r4P) = false := fun h => by rw [h]; rfl
    have hkk := put_keeps (s := .row [encProcS x] 21 0) (keepsNx hk) hk
    --CHAIN
    simp [hS.P, g0, hx, hr, encU32]
    by_cases c0 : a0 = 0
    rotate_left
    · simp [hS.P, g0, hx, hr, encU32, n0, c0]
      exact Leave.data (put_keeps (keepsNx hk) hk) (by simp) ⟨by rw [hk2, hd, hbad (by simp [r4P, hr, c0])], rfl⟩
    simp [hS.P, g0, hx, hr, encU32, n0, c0]
    by_cases c1 : x.state < 0
    · simp [hS.P, g0, hx, hr, encU32, n0, c0, c1]
      exact Leave.data (put_keeps (keepsNx hk) hk) (by simp) ⟨by rw [hk2, hd, hbad (by simp [r4P]; omega)], rfl⟩
    simp [hS.P, g0, hx, hr, encU32, n0, c0, c1]
    by_cases c2 : 3 < x.state
    · simp [hS.P, g0, hx, hr, encU32, n0, c0, c1, c2]
      exact Leave.data (put_keeps (keepsNx hk) hk) (by simp) ⟨by rw [hk2, hd, hbad (by simp [r4P]; omega)], rfl⟩
    simp [hS.P, g0, hx, hr, encU32, n0, c0, c1, c2]
    by_cases c3 : x.prio < 0
    · simp [hS.P, g0, hx, hr, encU32, n0, c0, c1, c2, c3]
      exact Leave.data (put_keeps (keepsNx hk) hk) (by simp) ⟨by rw [hk2, hd, hbad (by simp [r4P]; omega)], rfl⟩
    simp [hS.P, g0, hx, hr, encU32, n0, c0, c1, c2, c3]
    by_cases c4 : 255 < x.prio
    · simp [hS.P, g0, hx, hr, encU32, n0, c0, c1, c2, c3, c4]
      exact Leave.data (put_keeps (keepsNx hk) hk) (by simp) ⟨by rw [hk2, hd, hbad (by simp [r4P]; omega)], rfl⟩
    simp [hS.P, g0, hx, hr, encU32, n0, c0, c1, c2, c3, c4]
    by_cases c5 : x.wait < 0
    · simp [hS.P, g0, hx, hr, encU32, n0, c0, c1, c2, c3, c4, c5]
      exact Leave.data (put_keeps (keepsNx hk) hk) (by simp) ⟨by rw [hk2, hd, hbad (by simp [r4P]; omega)], rfl⟩
    simp [hS.P, g0, hx, hr, encU32, n0, c0, c1, c2, c3, c4, c5]
    by_cases c6 : 4 < x.wait
    · simp [hS.P, g0, hx, hr, encU32, n0, c0, c1, c2, c3, c4, c5, c6]
      exact Leave.data (put_keeps (keepsNx hk) hk) (by simp) ⟨by rw [hk2, hd, hbad (by simp [r4P]; omega)], rfl⟩
    simp [hS.P, g0, hx, hr, encU32, n0, c0, c1, c2, c3, c4, c5, c6]
    refine ⟨k + 1, _, ⟨hlt, ?_, ?_, put_keeps (keepsNx hk) hk⟩, by omega, Wk.regs (by simp [wrap1 (n := k) (by omega)])⟩
    · rw [hk2, hd, show r4P x = true by simp [r4P, hr, c0]; omega]; simp
    · rw [AH.put_ne _ _ n0]; exact g0
  · obtain rfl : k = s.procs.length := by omega
    simp
    exact Leave.data hk (by simp) ⟨by rw [hk2]; simp, rfl⟩
end Go.Proofs.YtndoembhbfiokaaGreatDoor.Am
set_option linter.unusedVariables false
set_option linter.unusedSimpArgs false
namespace Go.Proofs.YtndoembhbfiokaaGreatDoor.Am
open Go.RowKit Go.Proofs

theorem both_spec {X : Ctx} (hS : Sent X) (a b : Int) : ACalc X 153 [.int .i64 a, .int .i64 b] (.int .i64 (min a b)) := by
  intro H
  refine acalls' (N := 10) (rs := [.tmp 4]) [] (by rw [hS.P]; exact Tryz.func153) rfl rfl rfl (by decide) (by simp) ?_
  simp [entryR, hS.P]
  refine aCond_dec (fun h => ?_) (fun h => ?_)
  · simp
    exact Leave.data (keeps_refl _) (by simp) ⟨by rw [Int.min_def, if_pos (by omega)], rfl⟩
  · simp
    exact Leave.data (keeps_refl _) (by simp) ⟨by rw [Int.min_def]; split <;> congr 1; omega, rfl⟩
def r13P (z : PageS × PageD) : Bool := decide (z.1.rights = z.2.rights)
def r5P (x : ProcS) : Bool := decide (x.wait = 0) != decide (x.state = 2)
set_option maxRecDepth 4000 in
theorem rule5_spec {X : Ctx} (hS : Sent X) (s : StateD) (hs : s.WF) : ACalc X 130 [encState s] (.bool (s.procs.all r5P)) := by
  intro H
  refine acalls' (N := 26) (rs := [.tmp 2]) [] (by rw [hS.P]; exact Tryz.func130) rfl rfl rfl (by decide) (by simp) ?_
  have hk0 : ∀ i, H.get i ≠ .free → (H.put H.nx (.row [encState s] 10 0)).get i = H.get i := put_keeps (by simp) (keeps_refl H)
  simp [entryR, hS.P]
  refine AWp.loop (S := Nat) (fun k => k ≤ s.procs.length ∧ s.procs.all r5P = (s.procs.drop k).all r5P)
    (fun k => [(1, .ptr H.nx 0 0 0), (3, .int .i64 k)]) (fun _ => H.put H.nx (.row [encState s] 10 0)) (fun k => s.procs.length - k) 0 ⟨Nat.zero_le _, rfl⟩ (Wk.regs (by simp)) fun k hk => ?_
  obtain ⟨hk1, hk2⟩ := hk
  have hl := hs.procs
  refine aC_sound (lv := []) _ _ _ _ ?_
  simp [hS.P]
  refine aCond_dec (fun hlt => ?_) (fun hge => ?_)
  · obtain ⟨x, hx⟩ : ∃ x, s.procs[k]? = some x := ⟨s.procs[k], List.getElem?_eq_getElem hlt⟩
    have hd := all_drop hx (r5P)
    obtain ⟨a0, a1, a2, a3, a4, a5, a6, a7, a8, a9, a10, a11, a12, a13, a14, a15, hr⟩ := regs16 (hs.regs x (List.mem_of_getElem? hx))
    have bad : (r5P) x = false → Leave X H (.bool false) (H.put H.nx (.row [encState s] 10 0)) fun v' H' => v' = .bool (s.procs.all r5P) ∧ H' = H := fun h => Leave.data hk0 (by simp) ⟨by rw [hk2, hd, h]; rfl, rfl⟩
    have good : (r5P) x = true → s.procs.all r5P = (s.procs.drop (k + 1)).all r5P := fun h => by rw [hk2, hd, h]; simp
    simp [hS.P]
    rw [aC_draw (hc := by kernel_rfl)]
    simp [hS.P, hx, hr, encU32]
    refine aIf_mk (chkH_reads (by simp)) ?_
    by_cases e1 : x.wait = 0 <;> by_cases e2 : x.state = 2 <;> simp [hS.P, e1, e2]
    · exact bad (by simp [r5P, e1, e2])
    · exact ⟨k + 1, ⟨hlt, good (by simp [r5P, e1, e2])⟩, by omega, Wk.regs (by simp [wrap1 (n := k) (by omega)])⟩
    · exact ⟨k + 1, ⟨hlt, good (by simp [r5P, e1, e2])⟩, by omega, Wk.regs (by simp [wrap1 (n := k) (by omega)])⟩
    · exact bad (by simp [r5P, e1, e2])
  · obtain rfl : k = s.procs.length := by omega
    simp
    exact Leave.data hk0 (by simp) ⟨by rw [hk2, List.drop_length]; rfl, rfl⟩
set_option maxRecDepth 4000 in
theorem rule13_spec {X : Ctx} (hS : Sent X) (p : PlanD) (hp : p.Small) (s : StateD) (hs : s.WF) : ACalc X 145 [encPlan p, encState s] (.bool ((s.pages.zip p.pages).all (r13P))) := by
  intro H
  refine acalls' (N := 30) (rs := [.tmp 4]) [] (by rw [hS.P]; exact Tryz.func145) rfl rfl rfl (by decide) (by simp) ?_
  have f1 : H.get (H.nx + 1) = .free := AH.free_add H 1
  have hk0 : ∀ i, H.get i ≠ .free → ((H.put H.nx (.row [encPlan p] 7 0)).put (H.nx + 1) (.row [encState s] 10 0)).get i = H.get i := put_keeps f1 (put_keeps (by simp) (keeps_refl H))
  simp [entryR, hS.P]
  refine AWp.loop (S := Nat) (fun k => k ≤ (s.pages.zip p.pages).length ∧ (s.pages.zip p.pages).all (r13P) = ((s.pages.zip p.pages).drop k).all (r13P))
    (fun k => [(2, .ptr H.nx 0 0 0), (3, .ptr (H.nx + 1) 0 0 0), (5, .int .i64 k)]) (fun _ => (H.put H.nx (.row [encPlan p] 7 0)).put (H.nx + 1) (.row [encState s] 10 0)) (fun k => (s.pages.zip p.pages).length - k) 0 ⟨Nat.zero_le _, rfl⟩ (Wk.regs (by simp)) fun k hk => ?_
  obtain ⟨hk1, hk2⟩ := hk
  have hl := hs.pages
  refine aC_sound (lv := []) _ _ _ _ ?_
  simp [hS.P]
  have hzl : (s.pages.zip p.pages).length = min s.pages.length p.pages.length := List.length_zip
  have hl2 := hp.pages
  refine (both_spec hS _ _).go ?_
  simp [hS.P]
  refine aCond_mk (fun hlt => ?_) (fun hge => ?_)
  · have hlt : k < (s.pages.zip p.pages).length := by simp at hlt; omega
    obtain ⟨x, hx⟩ : ∃ x, s.pages[k]? = some x := ⟨s.pages[k], List.getElem?_eq_getElem (by omega)⟩
    obtain ⟨y, hy⟩ : ∃ y, p.pages[k]? = some y := ⟨p.pages[k], List.getElem?_eq_getElem (by omega)⟩
    have hz : (s.pages.zip p.pages)[k]? = some (x, y) := by rw [List.getElem?_zip_eq_some]; exact ⟨hx, hy⟩
    have hd := all_drop hz (r13P)
    have hda := hs.data x (List.mem_of_getElem? hx)
    have bad : (r13P) (x, y) = false → Leave X H (.bool false) ((H.put H.nx (.row [encPlan p] 7 0)).put (H.nx + 1) (.row [encState s] 10 0)) fun v' H' => v' = .bool ((s.pages.zip p.pages).all (r13P)) ∧ H' = H := fun h => Leave.data hk0 (by simp) ⟨by rw [hk2, hd, h]; rfl, rfl⟩
    have good : (r13P) (x, y) = true → (s.pages.zip p.pages).all (r13P) = ((s.pages.zip p.pages).drop (k + 1)).all (r13P) := fun h => by rw [hk2, hd, h]; simp
    simp [hS.P]
    rw [aC_draw (hc := by kernel_rfl)]
    simp [hS.P, hx, hy, hda]
    refine aIf_mk (chkH_reads (by simp)) ?_
    by_cases e : x.rights = y.rights <;> simp [hS.P, e]
    · exact ⟨k + 1, ⟨by omega, good (by simp [r13P, e])⟩, by omega, Wk.regs (by simp [wrap1 (n := k) (by omega)])⟩
    · exact bad (by simp [r13P, e])
  · obtain rfl : k = (s.pages.zip p.pages).length := by simp at hge; omega
    simp
    exact Leave.data hk0 (by simp) ⟨by rw [hk2, List.drop_length]; rfl, rfl⟩
end Go.Proofs.YtndoembhbfiokaaGreatDoor.Am
set_option linter.unusedVariables false
set_option linter.unusedSimpArgs false
namespace Go.Proofs.YtndoembhbfiokaaGreatDoor.Am
open Go.RowKit Go.Proofs

def r17P (z : PortS × PortD) : Bool := !((decide (z.2.kind = 2) || decide (z.2.kind = 4)) && decide (0 < z.1.msgs.length))
set_option maxRecDepth 4000 in
theorem rule17_spec {X : Ctx} (hS : Sent X) (p : PlanD) (hp : p.Small) (s : StateD) (hs : s.WF) : ACalc X 149 [encPlan p, encState s] (.bool ((s.ports.zip p.ports).all (r17P))) := by
  intro H
  refine acalls' (N := 43) (rs := [.tmp 4]) [] (by rw [hS.P]; exact Tryz.func149) rfl rfl rfl (by decide) (by simp) ?_
  have f1 : H.get (H.nx + 1) = .free := AH.free_add H 1
  have hk0 : ∀ i, H.get i ≠ .free → ((H.put H.nx (.row [encPlan p] 7 0)).put (H.nx + 1) (.row [encState s] 10 0)).get i = H.get i := put_keeps f1 (put_keeps (by simp) (keeps_refl H))
  simp [entryR, hS.P]
  refine AWp.loop (S := Nat) (fun k => k ≤ (s.ports.zip p.ports).length ∧ (s.ports.zip p.ports).all (r17P) = ((s.ports.zip p.ports).drop k).all (r17P))
    (fun k => [(2, .ptr H.nx 0 0 0), (3, .ptr (H.nx + 1) 0 0 0), (5, .int .i64 k)]) (fun _ => (H.put H.nx (.row [encPlan p] 7 0)).put (H.nx + 1) (.row [encState s] 10 0)) (fun k => (s.ports.zip p.ports).length - k) 0 ⟨Nat.zero_le _, rfl⟩ (Wk.regs (by simp)) fun k hk => ?_
  obtain ⟨hk1, hk2⟩ := hk
  have hl := hs.ports
  refine aC_sound (lv := []) _ _ _ _ ?_
  simp [hS.P]
  have hzl : (s.ports.zip p.ports).length = min s.ports.length p.ports.length := List.length_zip
  have hl2 := hp.ports
  refine (both_spec hS _ _).go ?_
  simp [hS.P]
  refine aCond_mk (fun hlt => ?_) (fun hge => ?_)
  · have hlt : k < (s.ports.zip p.ports).length := by simp at hlt; omega
    obtain ⟨x, hx⟩ : ∃ x, s.ports[k]? = some x := ⟨s.ports[k], List.getElem?_eq_getElem (by omega)⟩
    obtain ⟨y, hy⟩ : ∃ y, p.ports[k]? = some y := ⟨p.ports[k], List.getElem?_eq_getElem (by omega)⟩
    have hz : (s.ports.zip p.ports)[k]? = some (x, y) := by rw [List.getElem?_zip_eq_some]; exact ⟨hx, hy⟩
    have hd := all_drop hz (r17P)
    have bad : (r17P) (x, y) = false → Leave X H (.bool false) ((H.put H.nx (.row [encPlan p] 7 0)).put (H.nx + 1) (.row [encState s] 10 0)) fun v' H' => v' = .bool ((s.ports.zip p.ports).all (r17P)) ∧ H' = H := fun h => Leave.data hk0 (by simp) ⟨by rw [hk2, hd, h]; rfl, rfl⟩
    have good : (r17P) (x, y) = true → (s.ports.zip p.ports).all (r17P) = ((s.ports.zip p.ports).drop (k + 1)).all (r17P) := fun h => by rw [hk2, hd, h]; simp
    simp [hS.P, hx, hy]
    by_cases e1 : y.kind = 2
    · by_cases e3 : 0 < x.msgs.length
      · simp [hS.P, hx, hy, e1, e3]
        exact bad (by simp [r17P, e1, e3])
      · simp [hS.P, hx, hy, e1, e3]
        exact ⟨k + 1, ⟨by omega, good (by simp [r17P, e1, e3])⟩, by omega, Wk.regs (by simp [wrap1 (n := k) (by omega)])⟩
    · by_cases e2 : y.kind = 4
      · by_cases e3 : 0 < x.msgs.length
        · simp [hS.P, hx, hy, e1, e2, e3]
          exact bad (by simp [r17P, e1, e2, e3])
        · simp [hS.P, hx, hy, e1, e2, e3]
          exact ⟨k + 1, ⟨by omega, good (by simp [r17P, e1, e2, e3])⟩, by omega, Wk.regs (by simp [wrap1 (n := k) (by omega)])⟩
      · simp [hS.P, hx, hy, e1, e2]
        exact ⟨k + 1, ⟨by omega, good (by simp [r17P, e1, e2])⟩, by omega, Wk.regs (by simp [wrap1 (n := k) (by omega)])⟩
  · obtain rfl : k = (s.ports.zip p.ports).length := by simp at hge; omega
    simp
    exact Leave.data hk0 (by simp) ⟨by rw [hk2, List.drop_length]; rfl, rfl⟩
end Go.Proofs.YtndoembhbfiokaaGreatDoor.Am
set_option linter.unusedVariables false
set_option linter.unusedSimpArgs false
namespace Go.Proofs.YtndoembhbfiokaaGreatDoor.Am
open Go.RowKit Go.Proofs

def r12P (z : PortS × PortD) : Bool := !(decide (z.1.age < 0) || decide (255 < z.1.age) || (!decide (z.1.age = 0) && (!decide (z.2.kind = 1) || decide (z.1.msgs.length = 0))))
set_option maxRecDepth 4000 in
theorem rule12_spec {X : Ctx} (hS : Sent X) (p : PlanD) (hp : p.Small) (s : StateD) (hs : s.WF) : ACalc X 144 [encPlan p, encState s] (.bool ((s.ports.zip p.ports).all (r12P))) := by
  intro H
  refine acalls' (N := 53) (rs := [.tmp 4]) [] (by rw [hS.P]; exact Tryz.func144) rfl rfl rfl (by decide) (by simp) ?_
  have f1 : H.get (H.nx + 1) = .free := AH.free_add H 1
  have hk0 : ∀ i, H.get i ≠ .free → ((H.put H.nx (.row [encPlan p] 7 0)).put (H.nx + 1) (.row [encState s] 10 0)).get i = H.get i := put_keeps f1 (put_keeps (by simp) (keeps_refl H))
  simp [entryR, hS.P]
  refine AWp.loop (S := Nat) (fun k => k ≤ (s.ports.zip p.ports).length ∧ (s.ports.zip p.ports).all (r12P) = ((s.ports.zip p.ports).drop k).all (r12P))
    (fun k => [(2, .ptr H.nx 0 0 0), (3, .ptr (H.nx + 1) 0 0 0), (5, .int .i64 k)]) (fun _ => (H.put H.nx (.row [encPlan p] 7 0)).put (H.nx + 1) (.row [encState s] 10 0)) (fun k => (s.ports.zip p.ports).length - k) 0 ⟨Nat.zero_le _, rfl⟩ (Wk.regs (by simp)) fun k hk => ?_
  obtain ⟨hk1, hk2⟩ := hk
  have hl := hs.ports
  refine aC_sound (lv := []) _ _ _ _ ?_
  simp [hS.P]
  have hzl : (s.ports.zip p.ports).length = min s.ports.length p.ports.length := List.length_zip
  have hl2 := hp.ports
  refine (both_spec hS _ _).go ?_
  simp [hS.P]
  refine aCond_mk (fun hlt => ?_) (fun hge => ?_)
  · have hlt : k < (s.ports.zip p.ports).length := by simp at hlt; omega
    obtain ⟨x, hx⟩ : ∃ x, s.ports[k]? = some x := ⟨s.ports[k], List.getElem?_eq_getElem (by omega)⟩
    obtain ⟨y, hy⟩ : ∃ y, p.ports[k]? = some y := ⟨p.ports[k], List.getElem?_eq_getElem (by omega)⟩
    have hz : (s.ports.zip p.ports)[k]? = some (x, y) := by rw [List.getElem?_zip_eq_some]; exact ⟨hx, hy⟩
    have hd := all_drop hz (r12P)
    have bad : (r12P) (x, y) = false → Leave X H (.bool false) ((H.put H.nx (.row [encPlan p] 7 0)).put (H.nx + 1) (.row [encState s] 10 0)) fun v' H' => v' = .bool ((s.ports.zip p.ports).all (r12P)) ∧ H' = H := fun h => Leave.data hk0 (by simp) ⟨by rw [hk2, hd, h]; rfl, rfl⟩
    have good : (r12P) (x, y) = true → (s.ports.zip p.ports).all (r12P) = ((s.ports.zip p.ports).drop (k + 1)).all (r12P) := fun h => by rw [hk2, hd, h]; simp
    simp [hS.P, hx, hy]
    by_cases e1 : x.age < 0
    · simp [hS.P, hx, hy, e1]
      exact bad (by simp [r12P, e1])
    · by_cases e2 : 255 < x.age
      · simp [hS.P, hx, hy, e1, e2]
        exact bad (by simp [r12P, e1, e2])
      · by_cases e3 : x.age = 0
        · simp [hS.P, hx, hy, e1, e2, e3]
          exact ⟨k + 1, ⟨by omega, good (by simp [r12P, e1, e2, e3])⟩, by omega, Wk.regs (by simp [wrap1 (n := k) (by omega)])⟩
        · by_cases e4 : y.kind = 1
          · by_cases e5 : x.msgs.length = 0
            · simp [hS.P, hx, hy, e1, e2, e3, e4, e5]
              exact bad (by simp [r12P, e1, e2, e3, e4, e5])
            · simp [hS.P, hx, hy, e1, e2, e3, e4, e5]
              exact ⟨k + 1, ⟨by omega, good (by simp [r12P, e1, e2, e3, e4, e5])⟩, by omega, Wk.regs (by simp [wrap1 (n := k) (by omega)])⟩
          · simp [hS.P, hx, hy, e1, e2, e3, e4]
            exact bad (by simp [r12P, e1, e2, e3, e4])
  · obtain rfl : k = (s.ports.zip p.ports).length := by simp at hge; omega
    simp
    exact Leave.data hk0 (by simp) ⟨by rw [hk2, List.drop_length]; rfl, rfl⟩
def r14P (p : PlanD) (s : StateD) (x : ProcS) : Bool := !(decide (x.wait = 2) && decide (0 ≤ x.obj) && decide (x.obj < min (s.up.length : Int) p.events) && decide (s.up[x.obj.toNat]? = some true))
set_option maxRecDepth 4000 in
theorem rule14_spec {X : Ctx} (hS : Sent X) (p : PlanD) (hp : p.Small) (s : StateD) (hs : s.WF) : ACalc X 146 [encPlan p, encState s] (.bool (s.procs.all (r14P p s))) := by
  intro H
  refine acalls' (N := 48) (rs := [.tmp 4]) [] (by rw [hS.P]; exact Tryz.func146) rfl rfl rfl (by decide) (by simp) ?_
  have f1 : H.get (H.nx + 1) = .free := AH.free_add H 1
  have hk0 : ∀ i, H.get i ≠ .free → ((H.put H.nx (.row [encPlan p] 7 0)).put (H.nx + 1) (.row [encState s] 10 0)).get i = H.get i := put_keeps f1 (put_keeps (by simp) (keeps_refl H))
  simp [entryR, hS.P]
  refine AWp.loop (S := Nat) (fun k => k ≤ s.procs.length ∧ s.procs.all (r14P p s) = (s.procs.drop k).all (r14P p s))
    (fun k => [(2, .ptr H.nx 0 0 0), (3, .ptr (H.nx + 1) 0 0 0), (5, .int .i64 k)]) (fun _ => (H.put H.nx (.row [encPlan p] 7 0)).put (H.nx + 1) (.row [encState s] 10 0)) (fun k => s.procs.length - k) 0 ⟨Nat.zero_le _, rfl⟩ (Wk.regs (by simp)) fun k hk => ?_
  obtain ⟨hk1, hk2⟩ := hk
  have hl := hs.procs
  refine aC_sound (lv := []) _ _ _ _ ?_
  simp [hS.P]
  refine aCond_dec (fun hlt => ?_) (fun hge => ?_)
  · obtain ⟨x, hx⟩ : ∃ x, s.procs[k]? = some x := ⟨s.procs[k], List.getElem?_eq_getElem hlt⟩
    have hd := all_drop hx (r14P p s)
    obtain ⟨a0, a1, a2, a3, a4, a5, a6, a7, a8, a9, a10, a11, a12, a13, a14, a15, hr⟩ := regs16 (hs.regs x (List.mem_of_getElem? hx))
    have bad : (r14P p s) x = false → Leave X H (.bool false) ((H.put H.nx (.row [encPlan p] 7 0)).put (H.nx + 1) (.row [encState s] 10 0)) fun v' H' => v' = .bool (s.procs.all (r14P p s)) ∧ H' = H := fun h => Leave.data hk0 (by simp) ⟨by rw [hk2, hd, h]; rfl, rfl⟩
    have good : (r14P p s) x = true → s.procs.all (r14P p s) = (s.procs.drop (k + 1)).all (r14P p s) := fun h => by rw [hk2, hd, h]; simp
    simp [hS.P, hx, hr, encU32]
    by_cases e1 : x.wait = 2
    rotate_left
    · simp [hS.P, hx, hr, encU32, e1]
      exact ⟨k + 1, ⟨by omega, good (by simp [r14P, e1])⟩, by omega, Wk.regs (by simp [wrap1 (n := k) (by omega)])⟩
    by_cases e2 : 0 ≤ x.obj
    rotate_left
    · simp [hS.P, hx, hr, encU32, e1, e2]
      exact ⟨k + 1, ⟨by omega, good (by simp [r14P, e1, e2])⟩, by omega, Wk.regs (by simp [wrap1 (n := k) (by omega)])⟩
    simp [hS.P, hx, hr, encU32, e1, e2]
    refine (both_spec hS _ _).go ?_
    by_cases e3 : x.obj < min (s.up.length : Int) p.events
    rotate_left
    · simp [hS.P, hx, hr, encU32, e1, e2, e3]
      exact ⟨k + 1, ⟨by omega, good (by simp [r14P, e1, e2, e3])⟩, by omega, Wk.regs (by simp [wrap1 (n := k) (by omega)])⟩
    obtain ⟨b, hb⟩ : ∃ b, s.up[x.obj.toNat]? = some b := ⟨s.up[x.obj.toNat]'(by omega), List.getElem?_eq_getElem _⟩
    simp [hS.P, hx, hr, encU32, e1, e2, e3, hb]
    cases b with
    | true =>
      simp [hS.P]
      exact bad (by simp [r14P, e1, e2, e3, hb])
    | false =>
      simp [hS.P]
      exact ⟨k + 1, ⟨by omega, good (by simp [r14P, e1, e2, e3, hb])⟩, by omega, Wk.regs (by simp [wrap1 (n := k) (by omega)])⟩
  · obtain rfl : k = s.procs.length := by omega
    simp
    exact Leave.data hk0 (by simp) ⟨by rw [hk2, List.drop_length]; rfl, rfl⟩
end Go.Proofs.YtndoembhbfiokaaGreatDoor.Am
set_option linter.unusedVariables false
set_option linter.unusedSimpArgs false
namespace Go.Proofs.YtndoembhbfiokaaGreatDoor.Am
open Go.RowKit Go.Proofs

def r15P (p : PlanD) (s : StateD) (x : ProcS) : Bool := !(decide (x.wait = 3) && decide (0 ≤ x.obj) && decide (x.obj < min (s.sems.length : Int) p.sems.length) && !decide (s.sems[x.obj.toNat]? = some 0))
def bad16 : Option PortS → Option PortD → Bool
  | some a, some b => (decide (b.kind = 3) && !decide (a.msgs.length = 0)) || (decide (b.kind = 4) && !decide ((a.msgs.length : Int) = b.depth))
  | _, _ => false
def r16P (p : PlanD) (s : StateD) (x : ProcS) : Bool := !(decide (x.wait = 4) && decide (0 ≤ x.obj) && decide (x.obj < min (s.ports.length : Int) p.ports.length) && bad16 s.ports[x.obj.toNat]? p.ports[x.obj.toNat]?)
set_option maxRecDepth 4000 in
theorem rule15_spec {X : Ctx} (hS : Sent X) (p : PlanD) (hp : p.Small) (s : StateD) (hs : s.WF) : ACalc X 147 [encPlan p, encState s] (.bool (s.procs.all (r15P p s))) := by
  intro H
  refine acalls' (N := 50) (rs := [.tmp 4]) [] (by rw [hS.P]; exact Tryz.func147) rfl rfl rfl (by decide) (by simp) ?_
  have f1 : H.get (H.nx + 1) = .free := AH.free_add H 1
  have hk0 : ∀ i, H.get i ≠ .free → ((H.put H.nx (.row [encPlan p] 7 0)).put (H.nx + 1) (.row [encState s] 10 0)).get i = H.get i := put_keeps f1 (put_keeps (by simp) (keeps_refl H))
  simp [entryR, hS.P]
  refine AWp.loop (S := Nat) (fun k => k ≤ s.procs.length ∧ s.procs.all (r15P p s) = (s.procs.drop k).all (r15P p s))
    (fun k => [(2, .ptr H.nx 0 0 0), (3, .ptr (H.nx + 1) 0 0 0), (5, .int .i64 k)]) (fun _ => (H.put H.nx (.row [encPlan p] 7 0)).put (H.nx + 1) (.row [encState s] 10 0)) (fun k => s.procs.length - k) 0 ⟨Nat.zero_le _, rfl⟩ (Wk.regs (by simp)) fun k hk => ?_
  obtain ⟨hk1, hk2⟩ := hk
  have hl := hs.procs
  have hl3 := hs.sems
  have hl4 := hp.sems
  refine aC_sound (lv := []) _ _ _ _ ?_
  simp [hS.P]
  refine aCond_dec (fun hlt => ?_) (fun hge => ?_)
  · obtain ⟨x, hx⟩ : ∃ x, s.procs[k]? = some x := ⟨s.procs[k], List.getElem?_eq_getElem hlt⟩
    have hd := all_drop hx (r15P p s)
    obtain ⟨a0, a1, a2, a3, a4, a5, a6, a7, a8, a9, a10, a11, a12, a13, a14, a15, hr⟩ := regs16 (hs.regs x (List.mem_of_getElem? hx))
    have bad : (r15P p s) x = false → Leave X H (.bool false) ((H.put H.nx (.row [encPlan p] 7 0)).put (H.nx + 1) (.row [encState s] 10 0)) fun v' H' => v' = .bool (s.procs.all (r15P p s)) ∧ H' = H := fun h => Leave.data hk0 (by simp) ⟨by rw [hk2, hd, h]; rfl, rfl⟩
    have good : (r15P p s) x = true → s.procs.all (r15P p s) = (s.procs.drop (k + 1)).all (r15P p s) := fun h => by rw [hk2, hd, h]; simp
    simp [hS.P, hx, hr, encU32]
    by_cases e1 : x.wait = 3
    rotate_left
    · simp [hS.P, hx, hr, encU32, e1]
      exact ⟨k + 1, ⟨by omega, good (by simp [r15P, e1])⟩, by omega, Wk.regs (by simp [wrap1 (n := k) (by omega)])⟩
    by_cases e2 : 0 ≤ x.obj
    rotate_left
    · simp [hS.P, hx, hr, encU32, e1, e2]
      exact ⟨k + 1, ⟨by omega, good (by simp [r15P, e1, e2])⟩, by omega, Wk.regs (by simp [wrap1 (n := k) (by omega)])⟩
    simp [hS.P, hx, hr, encU32, e1, e2]
    refine (both_spec hS _ _).go ?_
    by_cases e3 : x.obj < min (s.sems.length : Int) p.sems.length
    rotate_left
    · simp [hS.P, hx, hr, encU32, e1, e2, e3]
      exact ⟨k + 1, ⟨by omega, good (by simp [r15P, e1, e2, e3])⟩, by omega, Wk.regs (by simp [wrap1 (n := k) (by omega)])⟩
    obtain ⟨b, hb⟩ : ∃ b, s.sems[x.obj.toNat]? = some b := ⟨s.sems[x.obj.toNat]'(by omega), List.getElem?_eq_getElem _⟩
    simp [hS.P, hx, hr, encU32, e1, e2, e3, hb, encInt]
    by_cases e4 : b = 0
    · simp [hS.P, e4]
      exact ⟨k + 1, ⟨by omega, good (by simp [r15P, e1, e2, e3, hb, e4])⟩, by omega, Wk.regs (by simp [wrap1 (n := k) (by omega)])⟩
    · simp [hS.P, e4]
      exact bad (by simp [r15P, e1, e2, e3, hb, e4])
  · obtain rfl : k = s.procs.length := by omega
    simp
    exact Leave.data hk0 (by simp) ⟨by rw [hk2, List.drop_length]; rfl, rfl⟩
set_option maxRecDepth 4000 in
theorem rule16_spec {X : Ctx} (hS : Sent X) (p : PlanD) (hp : p.Small) (s : StateD) (hs : s.WF) : ACalc X 148 [encPlan p, encState s] (.bool (s.procs.all (r16P p s))) := by
  intro H
  refine acalls' (N := 80) (rs := [.tmp 4]) [] (by rw [hS.P]; exact Tryz.func148) rfl rfl rfl (by decide) (by simp) ?_
  have f1 : H.get (H.nx + 1) = .free := AH.free_add H 1
  have hk0 : ∀ i, H.get i ≠ .free → ((H.put H.nx (.row [encPlan p] 7 0)).put (H.nx + 1) (.row [encState s] 10 0)).get i = H.get i := put_keeps f1 (put_keeps (by simp) (keeps_refl H))
  simp [entryR, hS.P]
  refine AWp.loop (S := Nat) (fun k => k ≤ s.procs.length ∧ s.procs.all (r16P p s) = (s.procs.drop k).all (r16P p s))
    (fun k => [(2, .ptr H.nx 0 0 0), (3, .ptr (H.nx + 1) 0 0 0), (5, .int .i64 k)]) (fun _ => (H.put H.nx (.row [encPlan p] 7 0)).put (H.nx + 1) (.row [encState s] 10 0)) (fun k => s.procs.length - k) 0 ⟨Nat.zero_le _, rfl⟩ (Wk.regs (by simp)) fun k hk => ?_
  obtain ⟨hk1, hk2⟩ := hk
  have hl := hs.procs
  have hl3 := hs.ports
  have hl4 := hp.ports
  refine aC_sound (lv := []) _ _ _ _ ?_
  simp [hS.P]
  refine aCond_dec (fun hlt => ?_) (fun hge => ?_)
  · obtain ⟨x, hx⟩ : ∃ x, s.procs[k]? = some x := ⟨s.procs[k], List.getElem?_eq_getElem hlt⟩
    have hd := all_drop hx (r16P p s)
    obtain ⟨a0, a1, a2, a3, a4, a5, a6, a7, a8, a9, a10, a11, a12, a13, a14, a15, hr⟩ := regs16 (hs.regs x (List.mem_of_getElem? hx))
    have bad : (r16P p s) x = false → Leave X H (.bool false) ((H.put H.nx (.row [encPlan p] 7 0)).put (H.nx + 1) (.row [encState s] 10 0)) fun v' H' => v' = .bool (s.procs.all (r16P p s)) ∧ H' = H := fun h => Leave.data hk0 (by simp) ⟨by rw [hk2, hd, h]; rfl, rfl⟩
    have good : (r16P p s) x = true → s.procs.all (r16P p s) = (s.procs.drop (k + 1)).all (r16P p s) := fun h => by rw [hk2, hd, h]; simp
    simp [hS.P, hx, hr, encU32]
    by_cases e1 : x.wait = 4
    rotate_left
    · simp [hS.P, hx, hr, encU32, e1]
      exact ⟨k + 1, ⟨by omega, good (by simp [r16P, e1])⟩, by omega, Wk.regs (by simp [wrap1 (n := k) (by omega)])⟩
    by_cases e2 : x.obj < 0
    · simp [hS.P, hx, hr, encU32, e1, e2]
      have e2' : ¬ 0 ≤ x.obj := by omega
      exact ⟨k + 1, ⟨by omega, good (by simp [r16P, e1, e2, e2'])⟩, by omega, Wk.regs (by simp [wrap1 (n := k) (by omega)])⟩
    have e2' : 0 ≤ x.obj := by omega
    simp [hS.P, hx, hr, encU32, e1, e2]
    refine (both_spec hS _ _).go ?_
    by_cases e3 : x.obj < min (s.ports.length : Int) p.ports.length
    rotate_left
    · have e3' : min (s.ports.length : Int) p.ports.length ≤ x.obj := by omega
      simp [hS.P, hx, hr, encU32, e1, e2, e3']
      exact ⟨k + 1, ⟨by omega, good (by simp [r16P, e1, e2', e3, e3'])⟩, by omega, Wk.regs (by simp [wrap1 (n := k) (by omega)])⟩
    have e3' : ¬ min (s.ports.length : Int) p.ports.length ≤ x.obj := by omega
    obtain ⟨a, ha⟩ : ∃ b, s.ports[x.obj.toNat]? = some b := ⟨s.ports[x.obj.toNat]'(by omega), List.getElem?_eq_getElem _⟩
    obtain ⟨b, hb⟩ : ∃ b, p.ports[x.obj.toNat]? = some b := ⟨p.ports[x.obj.toNat]'(by omega), List.getElem?_eq_getElem _⟩
    simp [hS.P, hx, hr, encU32, e1, e2, e2', e3', ha, hb]
    by_cases e4 : b.kind = 3
    · by_cases e5 : a.msgs.length = 0
      · simp [hS.P, e4, e5, e2', ha, hb]
        exact ⟨k + 1, ⟨by omega, good (by simp [r16P, bad16, e1, e2', e3, ha, hb, e4, e5])⟩, by omega, Wk.regs (by simp [wrap1 (n := k) (by omega)])⟩
      · simp [hS.P, e4, e5, e2', ha, hb]
        exact bad (by simp [r16P, bad16, e1, e2', e3, ha, hb, e4, e5])
    by_cases e6 : b.kind = 4
    · by_cases e7 : (a.msgs.length : Int) = b.depth
      · simp [hS.P, e4, e6, e7, e2', ha, hb]
        exact ⟨k + 1, ⟨by omega, good (by simp [r16P, bad16, e1, e2', e3, ha, hb, e4, e6, e7])⟩, by omega, Wk.regs (by simp [wrap1 (n := k) (by omega)])⟩
      · simp [hS.P, e4, e6, e7, e2', ha, hb]
        exact bad (by simp [r16P, bad16, e1, e2', e3, ha, hb, e4, e6, e7])
    · simp [hS.P, e4, e6, e2', ha, hb]
      exact ⟨k + 1, ⟨by omega, good (by simp [r16P, bad16, e1, e2', e3, ha, hb, e4, e6])⟩, by omega, Wk.regs (by simp [wrap1 (n := k) (by omega)])⟩
  · obtain rfl : k = s.procs.length := by omega
    simp
    exact Leave.data hk0 (by simp) ⟨by rw [hk2, List.drop_length]; rfl, rfl⟩
end Go.Proofs.YtndoembhbfiokaaGreatDoor.Am
set_option linter.unusedVariables false
set_option linter.unusedSimpArgs false
namespace Go.Proofs.YtndoembhbfiokaaGreatDoor.Am
open Go.RowKit Go.Proofs

def queuingP (p : PlanD) (n : Int) : Bool := decide (0 ≤ n) && decide (n < p.ports.length) && (match p.ports[n.toNat]? with | some b => decide (b.kind = 3) || decide (b.kind = 4) | none => false)
theorem queuing_spec {X : Ctx} (hS : Sent X) (p : PlanD) (hp : p.Small) (n : Int) : ACalc X 152 [encPlan p, .int .i64 n] (.bool (queuingP p n)) := by
  intro H
  refine acalls' (N := 32) (rs := [.tmp 4]) [] (by rw [hS.P]; exact Tryz.func152) rfl rfl rfl (by decide) (by simp) ?_
  have hk0 : ∀ i, H.get i ≠ .free → (H.put H.nx (.row [encPlan p] 7 0)).get i = H.get i := put_keeps (by simp) (keeps_refl H)
  simp [entryR, hS.P]
  by_cases e1 : 0 ≤ n
  rotate_left
  · simp [hS.P, e1]
    exact Leave.data hk0 (by simp) ⟨by simp [queuingP, e1], rfl⟩
  by_cases e2 : n < p.ports.length
  rotate_left
  · simp [hS.P, e1, e2]
    exact Leave.data hk0 (by simp) ⟨by simp [queuingP, e1, e2], rfl⟩
  have hlt : n.toNat < p.ports.length := by omega
  obtain ⟨b, hbe⟩ : ∃ b, p.ports[n.toNat]'hlt = b := ⟨_, rfl⟩
  have hb : p.ports[n.toNat]? = some b := by rw [List.getElem?_eq_getElem hlt, hbe]
  simp [hS.P, e1, e2, hb, hbe]
  by_cases e3 : b.kind = 3
  · simp [hS.P, e1, e2, hb, hbe, e3]
    exact Leave.data hk0 (by simp) ⟨by simp [queuingP, e1, e2, hb, hbe, e3], rfl⟩
  by_cases e4 : b.kind = 4
  · simp [hS.P, e1, e2, hb, hbe, e3, e4]
    exact Leave.data hk0 (by simp) ⟨by simp [queuingP, e1, e2, hb, hbe, e3, e4], rfl⟩
  · simp [hS.P, e1, e2, hb, hbe, e3, e4]
    exact Leave.data hk0 (by simp) ⟨by simp [queuingP, e1, e2, hb, hbe, e3, e4], rfl⟩
def objectP (p : PlanD) (x : ProcS) : Bool :=
  if x.wait = 2 then decide (0 ≤ x.obj) && decide (x.obj < p.events) else if x.wait = 3 then decide (0 ≤ x.obj) && decide (x.obj < p.sems.length) else if x.wait = 4 then queuingP p x.obj else decide (x.obj = 0)
set_option maxRecDepth 4000 in
theorem object_spec {X : Ctx} (hS : Sent X) (p : PlanD) (hp : p.Small) (x : ProcS) (hx : x.regs.length = 16) : ACalc X 142 [encPlan p, encProcS x] (.bool (objectP p x)) := by
  intro H
  refine acalls' (N := 41) (rs := [.tmp 4]) [] (by rw [hS.P]; exact Tryz.func142) rfl rfl rfl (by decide) (by simp) ?_
  have f1 : H.get (H.nx + 1) = .free := AH.free_add H 1
  have hk0 : ∀ i, H.get i ≠ .free → ((H.put H.nx (.row [encPlan p] 7 0)).put (H.nx + 1) (.row [encProcS x] 21 0)).get i = H.get i := put_keeps f1 (put_keeps (by simp) (keeps_refl H))
  obtain ⟨a0, a1, a2, a3, a4, a5, a6, a7, a8, a9, a10, a11, a12, a13, a14, a15, hr⟩ := regs16 hx
  have he : encProcS x = .agg [encU32 a0, encU32 a1, encU32 a2, encU32 a3, encU32 a4, encU32 a5, encU32 a6, encU32 a7, encU32 a8, encU32 a9, encU32 a10, encU32 a11, encU32 a12, encU32 a13, encU32 a14, encU32 a15, .int .u32 x.pc, .int .i64 x.state, .int .i64 x.prio, .int .i64 x.wait, .int .i64 x.obj] := by rw [encProcS, hr]; rfl
  simp [entryR, hS.P, hr, encU32]
  by_cases e1 : x.wait = 2
  · simp [hS.P, hr, encU32, e1]
    by_cases e2 : 0 ≤ x.obj
    · by_cases e3 : x.obj < p.events
      · simp [hS.P, hr, encU32, e1, e2, e3]
        exact Leave.data (put_keeps f1 (put_keeps (by simp) (keeps_refl H))) (by simp) ⟨by simp [objectP, e1, e2, e3], rfl⟩
      · simp [hS.P, hr, encU32, e1, e2, e3]
        exact Leave.data (put_keeps f1 (put_keeps (by simp) (keeps_refl H))) (by simp) ⟨by simp [objectP, e1, e2, e3], rfl⟩
    · simp [hS.P, hr, encU32, e1, e2]
      exact Leave.data (put_keeps f1 (put_keeps (by simp) (keeps_refl H))) (by simp) ⟨by simp [objectP, e1, e2], rfl⟩
  by_cases e4 : x.wait = 3
  · simp [hS.P, hr, encU32, e1, e4]
    by_cases e2 : 0 ≤ x.obj
    · by_cases e3 : x.obj < p.sems.length
      · simp [hS.P, hr, encU32, e1, e4, e2, e3]
        exact Leave.data (put_keeps f1 (put_keeps (by simp) (keeps_refl H))) (by simp) ⟨by simp [objectP, e1, e4, e2, e3], rfl⟩
      · simp [hS.P, hr, encU32, e1, e4, e2, e3]
        exact Leave.data (put_keeps f1 (put_keeps (by simp) (keeps_refl H))) (by simp) ⟨by simp [objectP, e1, e4, e2, e3], rfl⟩
    · simp [hS.P, hr, encU32, e1, e4, e2]
      exact Leave.data (put_keeps f1 (put_keeps (by simp) (keeps_refl H))) (by simp) ⟨by simp [objectP, e1, e4, e2], rfl⟩
  by_cases e5 : x.wait = 4
  · simp [hS.P, hr, encU32, e1, e4, e5]
    refine (queuing_spec hS p hp x.obj).go ?_
    simp [hS.P]
    exact Leave.data (put_keeps f1 (put_keeps (by simp) (keeps_refl H))) (by simp) ⟨by simp [objectP, e1, e4, e5], rfl⟩
  · simp [hS.P, hr, encU32, e1, e4, e5]
    exact Leave.data (put_keeps f1 (put_keeps (by simp) (keeps_refl H))) (by simp) ⟨by simp [objectP, e1, e4, e5], rfl⟩
set_option maxRecDepth 4000 in
theorem rule6_spec {X : Ctx} (hS : Sent X) (p : PlanD) (hp : p.Small) (s : StateD) (hs : s.WF) : ACalc X 131 [encPlan p, encState s] (.bool (s.procs.all (objectP p))) := by
  intro H
  refine acalls' (N := 21) (rs := [.tmp 4]) [] (by rw [hS.P]; exact Tryz.func131) rfl rfl rfl (by decide) (by simp) ?_
  have f1 : H.get (H.nx + 1) = .free := AH.free_add H 1
  have hk0 : ∀ i, H.get i ≠ .free → ((H.put H.nx (.row [encPlan p] 7 0)).put (H.nx + 1) (.row [encState s] 10 0)).get i = H.get i := put_keeps f1 (put_keeps (by simp) (keeps_refl H))
  simp [entryR, hS.P]
  refine AWp.loop (S := Nat) (fun k => k ≤ s.procs.length ∧ s.procs.all (objectP p) = (s.procs.drop k).all (objectP p))
    (fun k => [(2, .ptr H.nx 0 0 0), (3, .ptr (H.nx + 1) 0 0 0), (5, .int .i64 k)]) (fun _ => (H.put H.nx (.row [encPlan p] 7 0)).put (H.nx + 1) (.row [encState s] 10 0)) (fun k => s.procs.length - k) 0 ⟨Nat.zero_le _, rfl⟩ (Wk.regs (by simp)) fun k hk => ?_
  obtain ⟨hk1, hk2⟩ := hk
  have hl := hs.procs
  refine aC_sound (lv := []) _ _ _ _ ?_
  simp [hS.P]
  refine aCond_dec (fun hlt => ?_) (fun hge => ?_)
  · obtain ⟨x, hx⟩ : ∃ x, s.procs[k]? = some x := ⟨s.procs[k], List.getElem?_eq_getElem hlt⟩
    have hd := all_drop hx (objectP p)
    obtain ⟨a0, a1, a2, a3, a4, a5, a6, a7, a8, a9, a10, a11, a12, a13, a14, a15, hr⟩ := regs16 (hs.regs x (List.mem_of_getElem? hx))
    have bad : (objectP p) x = false → Leave X H (.bool false) ((H.put H.nx (.row [encPlan p] 7 0)).put (H.nx + 1) (.row [encState s] 10 0)) fun v' H' => v' = .bool (s.procs.all (objectP p)) ∧ H' = H := fun h => Leave.data hk0 (by simp) ⟨by rw [hk2, hd, h]; rfl, rfl⟩
    have good : (objectP p) x = true → s.procs.all (objectP p) = (s.procs.drop (k + 1)).all (objectP p) := fun h => by rw [hk2, hd, h]; simp
    simp [hS.P]
    rw [aC_draw (hc := by kernel_rfl)]
    simp [hS.P, hx, hr, encU32]
    have he : encProcS x = .agg [.int .u32 a0, .int .u32 a1, .int .u32 a2, .int .u32 a3, .int .u32 a4, .int .u32 a5, .int .u32 a6, .int .u32 a7, .int .u32 a8, .int .u32 a9, .int .u32 a10, .int .u32 a11, .int .u32 a12, .int .u32 a13, .int .u32 a14, .int .u32 a15, .int .u32 x.pc, .int .i64 x.state, .int .i64 x.prio, .int .i64 x.wait, .int .i64 x.obj] := by rw [encProcS, hr]; rfl
    have ho := object_spec hS p hp x (hs.regs x (List.mem_of_getElem? hx))
    rw [he] at ho
    refine ho.call ?_
    simp [hS.P]
    refine aIf_mk (chkH_reads (by simp)) ?_
    cases e : objectP p x with
    | true =>
      simp [hS.P]
      exact ⟨k + 1, ⟨by omega, good (by exact e)⟩, by omega, Wk.regs (by simp [wrap1 (n := k) (by omega)])⟩
    | false =>
      simp [hS.P]
      exact bad e
  · obtain rfl : k = s.procs.length := by omega
    simp
    exact Leave.data hk0 (by simp) ⟨by rw [hk2, List.drop_length]; rfl, rfl⟩
end Go.Proofs.YtndoembhbfiokaaGreatDoor.Am
set_option linter.unusedVariables false
set_option linter.unusedSimpArgs false
namespace Go.Proofs.YtndoembhbfiokaaGreatDoor.Am
open Go.RowKit Go.Proofs

def fits11 (y : PortD) (m : List UInt8) : Bool := decide ((m.length : Int) ≤ y.size)
def r11P (z : PortS × PortD) : Bool := decide ((z.1.msgs.length : Int) ≤ z.2.depth) && z.1.msgs.all (fits11 z.2)
set_option maxRecDepth 4000 in
theorem rule11_spec {X : Ctx} (hS : Sent X) (p : PlanD) (hp : p.Small) (s : StateD) (hs : s.WF) : ACalc X 143 [encPlan p, encState s] (.bool ((s.ports.zip p.ports).all (r11P))) := by
  intro H
  refine acalls' (N := 60) (rs := [.tmp 4]) [] (by rw [hS.P]; exact Tryz.func143) rfl rfl rfl (by decide) (by simp) ?_
  have f1 : H.get (H.nx + 1) = .free := AH.free_add H 1
  have hk0 : ∀ i, H.get i ≠ .free → ((H.put H.nx (.row [encPlan p] 7 0)).put (H.nx + 1) (.row [encState s] 10 0)).get i = H.get i := put_keeps f1 (put_keeps (by simp) (keeps_refl H))
  simp [entryR, hS.P]
  refine AWp.loop (S := Nat) (fun k => k ≤ (s.ports.zip p.ports).length ∧ (s.ports.zip p.ports).all (r11P) = ((s.ports.zip p.ports).drop k).all (r11P))
    (fun k => [(2, .ptr H.nx 0 0 0), (3, .ptr (H.nx + 1) 0 0 0), (5, .int .i64 k)]) (fun _ => (H.put H.nx (.row [encPlan p] 7 0)).put (H.nx + 1) (.row [encState s] 10 0)) (fun k => (s.ports.zip p.ports).length - k) 0 ⟨Nat.zero_le _, rfl⟩ (Wk.regs (by simp)) fun k hk => ?_
  obtain ⟨hk1, hk2⟩ := hk
  have hl := hs.ports
  refine aC_sound (lv := []) _ _ _ _ ?_
  simp [hS.P]
  have hzl : (s.ports.zip p.ports).length = min s.ports.length p.ports.length := List.length_zip
  have hl2 := hp.ports
  refine (both_spec hS _ _).go ?_
  simp [hS.P]
  refine aCond_mk (fun hlt => ?_) (fun hge => ?_)
  · have hlt : k < (s.ports.zip p.ports).length := by simp at hlt; omega
    obtain ⟨x, hx⟩ : ∃ x, s.ports[k]? = some x := ⟨s.ports[k], List.getElem?_eq_getElem (by omega)⟩
    obtain ⟨y, hy⟩ : ∃ y, p.ports[k]? = some y := ⟨p.ports[k], List.getElem?_eq_getElem (by omega)⟩
    have hz : (s.ports.zip p.ports)[k]? = some (x, y) := by rw [List.getElem?_zip_eq_some]; exact ⟨hx, hy⟩
    have hd := all_drop hz (r11P)
    have bad : (r11P) (x, y) = false → Leave X H (.bool false) ((H.put H.nx (.row [encPlan p] 7 0)).put (H.nx + 1) (.row [encState s] 10 0)) fun v' H' => v' = .bool ((s.ports.zip p.ports).all (r11P)) ∧ H' = H := fun h => Leave.data hk0 (by simp) ⟨by rw [hk2, hd, h]; rfl, rfl⟩
    have good : (r11P) (x, y) = true → (s.ports.zip p.ports).all (r11P) = ((s.ports.zip p.ports).drop (k + 1)).all (r11P) := fun h => by rw [hk2, hd, h]; simp
    have hml := hs.msgs x (List.mem_of_getElem? hx)
    simp [hS.P]
    rw [aC_draw (hc := by kernel_rfl)]
    simp [hS.P, hx, hy]
    refine aIf_mk (chkH_reads (by simp)) ?_
    by_cases e1 : y.depth < x.msgs.length
    · simp [hS.P, e1]
      have e1' : ¬ (x.msgs.length : Int) ≤ y.depth := by omega
      exact bad (by simp [r11P, e1'])
    have e1' : (x.msgs.length : Int) ≤ y.depth := by omega
    simp [hS.P, e1]
    refine AWp.loop (S := Nat) (fun j => j ≤ x.msgs.length ∧ x.msgs.all (fits11 y) = (x.msgs.drop j).all (fits11 y))
      (fun j => [(2, .ptr H.nx 0 0 0), (3, .ptr (H.nx + 1) 0 0 0), (5, .int .i64 k), (6, .int .i64 j)]) (fun _ => (H.put H.nx (.row [encPlan p] 7 0)).put (H.nx + 1) (.row [encState s] 10 0)) (fun j => x.msgs.length - j) 0 ⟨Nat.zero_le _, rfl⟩ (Wk.regs (by simp)) fun j hj => ?_
    obtain ⟨hj1, hj2⟩ := hj
    refine aC_sound (lv := []) _ _ _ _ ?_
    simp [hS.P, hx]
    refine aCond_dec (fun hjl => ?_) (fun hjg => ?_)
    · obtain ⟨m, hm⟩ : ∃ m, x.msgs[j]? = some m := ⟨x.msgs[j], List.getElem?_eq_getElem hjl⟩
      have hmd := all_drop hm (fits11 y)
      simp [hS.P]
      rw [aC_draw (hc := by kernel_rfl)]
      simp [hS.P, hx, hy, hm, encStr]
      refine aIf_mk (chkH_reads (by simp)) ?_
      by_cases e2 : y.size < m.length
      · simp [hS.P, e2]
        have e2' : ¬ (m.length : Int) ≤ y.size := by omega
        exact bad (by rw [r11P, hj2, hmd]; simp [fits11, e2'])
      · simp [hS.P, e2]
        have e2' : (m.length : Int) ≤ y.size := by omega
        exact ⟨j + 1, ⟨hjl, by rw [hj2, hmd]; simp [fits11, e2']⟩, by omega, Wk.regs (by simp [wrap1 (n := j) (by omega)])⟩
    · obtain rfl : j = x.msgs.length := by omega
      rw [List.drop_length] at hj2
      simp [hS.P]
      exact ⟨k + 1, ⟨by omega, good (by rw [r11P, hj2]; simp [e1'])⟩, by omega, Wk.regs (by simp [wrap1 (n := k) (by omega)])⟩
  · obtain rfl : k = (s.ports.zip p.ports).length := by simp at hge; omega
    simp
    exact Leave.data hk0 (by simp) ⟨by rw [hk2, List.drop_length]; rfl, rfl⟩
end Go.Proofs.YtndoembhbfiokaaGreatDoor.Am
set_option linter.unusedVariables false
set_option linter.unusedSimpArgs false
namespace Go.Proofs.YtndoembhbfiokaaGreatDoor.Am
open Go.RowKit Go.Proofs

def dup7 (l : List Int) (n : Int) (j : Nat) : Bool := !decide (l[j]? = some n)
def in7 (s : StateD) (n : Int) : Bool := decide (0 ≤ n) && decide (n < s.procs.length) && (match s.procs[n.toNat]? with | some x => decide (x.state = 1) | none => false)
def g7 (s : StateD) (i : Nat) : Bool := match s.ready[i]? with
  | some n => in7 s n && (List.range i).all (dup7 s.ready n)
  | none => true
def run7 (x : ProcS) : Bool := decide (x.state = 1)
def r7P (s : StateD) : Bool := (List.range s.ready.length).all (g7 s) && decide (s.procs.countP run7 = s.ready.length)
theorem range_get {n k : Nat} (h : k < n) : (List.range n)[k]? = some k := by simp [h]
theorem countP_take {A : Type} {f : A → Bool} {l : List A} {k : Nat} {x : A} (h : l[k]? = some x) : (l.take (k + 1)).countP f = (l.take k).countP f + if f x then 1 else 0 := by
  simp [List.take_add_one, h, List.countP_append, List.countP_cons]
set_option maxRecDepth 4000 in
theorem rule7_spec {X : Ctx} (hS : Sent X) (s : StateD) (hs : s.WF) : ACalc X 132 [encState s] (.bool (r7P s)) := by
  intro H
  refine acalls' (N := 71) (rs := [.tmp 2]) [] (by rw [hS.P]; exact Tryz.func132) rfl rfl rfl (by decide) (by simp) ?_
  have hk0 : ∀ i, H.get i ≠ .free → (H.put H.nx (.row [encState s] 10 0)).get i = H.get i := put_keeps (by simp) (keeps_refl H)
  simp [entryR, hS.P]
  refine AWp.loop (S := Nat) (fun k => k ≤ s.ready.length ∧ (List.range s.ready.length).all (g7 s) = ((List.range s.ready.length).drop k).all (g7 s))
    (fun k => [(1, .ptr H.nx 0 0 0), (3, .int .i64 k)]) (fun _ => H.put H.nx (.row [encState s] 10 0)) (fun k => s.ready.length - k) 0 ⟨Nat.zero_le _, rfl⟩ (Wk.regs (by simp)) fun k hk => ?_
  obtain ⟨hk1, hk2⟩ := hk
  have hl := hs.ready
  have hlp := hs.procs
  refine aC_sound (lv := []) _ _ _ _ ?_
  simp [hS.P]
  refine aCond_dec (fun hlt => ?_) (fun hge => ?_)
  · obtain ⟨n, hn⟩ : ∃ n, s.ready[k]? = some n := ⟨s.ready[k], List.getElem?_eq_getElem hlt⟩
    have hd := all_drop (range_get hlt) (g7 s)
    have hg : g7 s k = (in7 s n && (List.range k).all (dup7 s.ready n)) := by rw [g7, hn]
    have bad : g7 s k = false → Leave X H (.bool false) (H.put H.nx (.row [encState s] 10 0)) fun v' H' => v' = .bool (r7P s) ∧ H' = H := fun h => Leave.data hk0 (by simp) ⟨by rw [r7P, hk2, hd, h]; rfl, rfl⟩
    have good : g7 s k = true → (List.range s.ready.length).all (g7 s) = ((List.range s.ready.length).drop (k + 1)).all (g7 s) := fun h => by rw [hk2, hd, h]; simp
    simp [hS.P, hn, encInt]
    by_cases e1 : n < 0
    · have e1' : ¬ 0 ≤ n := by omega
      simp [hS.P, e1]
      exact bad (by rw [hg]; simp [in7, e1'])
    have e1' : 0 ≤ n := by omega
    by_cases e2 : (s.procs.length : Int) ≤ n
    · have e2' : ¬ n < s.procs.length := by omega
      simp [hS.P, e1, e2]
      exact bad (by rw [hg]; simp [in7, e2'])
    have e2' : n < s.procs.length := by omega
    have hnl : n.toNat < s.procs.length := by omega
    obtain ⟨x, hxe⟩ : ∃ x, s.procs[n.toNat]'hnl = x := ⟨_, rfl⟩
    have hx : s.procs[n.toNat]? = some x := by rw [List.getElem?_eq_getElem hnl, hxe]
    obtain ⟨a0, a1, a2, a3, a4, a5, a6, a7, a8, a9, a10, a11, a12, a13, a14, a15, hr⟩ := regs16 (hs.regs x (List.mem_of_getElem? hx))
    simp [hS.P, e1, e1', e2, e2', hx, hxe, hr, encU32]
    by_cases e3 : x.state = 1
    rotate_left
    · simp [hS.P, e1, e1', e2, e2', hx, hxe, hr, encU32, e3]
      exact bad (by rw [hg]; simp [in7, hx, e3])
    have hin : in7 s n = true := by simp [in7, e1', e2', hx, hxe, e3]
    simp [hS.P, e1, e1', e2, e2', hx, hxe, hr, encU32, e3]
    refine AWp.loop (S := Nat) (fun j => j ≤ k ∧ (List.range k).all (dup7 s.ready n) = ((List.range k).drop j).all (dup7 s.ready n))
      (fun j => [(1, .ptr H.nx 0 0 0), (3, .int .i64 k), (4, .int .i64 n), (5, .int .i64 j)]) (fun _ => H.put H.nx (.row [encState s] 10 0)) (fun j => k - j) 0 ⟨Nat.zero_le _, rfl⟩ (Wk.regs (by simp)) fun j hj => ?_
    obtain ⟨hj1, hj2⟩ := hj
    refine aC_sound (lv := []) _ _ _ _ ?_
    simp [hS.P]
    refine aCond_dec (fun hjl => ?_) (fun hjg => ?_)
    · have hjl' : j < k := by omega
      obtain ⟨m, hm⟩ : ∃ m, s.ready[j]? = some m := ⟨s.ready[j]'(by omega), List.getElem?_eq_getElem _⟩
      have hjd := all_drop (range_get hjl') (dup7 s.ready n)
      simp [hS.P, hm, encInt]
      by_cases e4 : m = n
      · simp [hS.P, e4]
        exact bad (by rw [hg, hj2, hjd]; simp [dup7, hm, e4])
      · simp [hS.P, e4]
        exact ⟨j + 1, ⟨hjl', by rw [hj2, hjd]; simp [dup7, hm, e4]⟩, by omega, Wk.regs (by simp [wrap1 (n := j) (by omega)])⟩
    · obtain rfl : j = k := by omega
      have hz : (List.range j).drop j = [] := by rw [List.drop_eq_nil_iff]; simp
      rw [hz] at hj2
      simp [hS.P]
      exact ⟨j + 1, ⟨hlt, good (by rw [hg, hin, hj2]; rfl)⟩, by omega, Wk.regs (by simp [wrap1 (n := j) (by omega)])⟩
  · obtain rfl : k = s.ready.length := by omega
    have hz : (List.range s.ready.length).drop s.ready.length = [] := by rw [List.drop_eq_nil_iff]; simp
    rw [hz] at hk2
    simp [hS.P]
    refine AWp.loop (S := Nat) (fun j => j ≤ s.procs.length)
      (fun j => [(1, .ptr H.nx 0 0 0), (6, .int .i64 ((s.procs.take j).countP run7)), (7, .int .i64 j)]) (fun _ => H.put H.nx (.row [encState s] 10 0)) (fun j => s.procs.length - j) 0 (Nat.zero_le _) (Wk.regs (by simp)) fun j hj => ?_
    refine aC_sound (lv := []) _ _ _ _ ?_
    simp [hS.P]
    refine aCond_dec (fun hjl => ?_) (fun hjg => ?_)
    · obtain ⟨x, hx⟩ : ∃ x, s.procs[j]? = some x := ⟨s.procs[j], List.getElem?_eq_getElem hjl⟩
      obtain ⟨a0, a1, a2, a3, a4, a5, a6, a7, a8, a9, a10, a11, a12, a13, a14, a15, hr⟩ := regs16 (hs.regs x (List.mem_of_getElem? hx))
      have hcl : (s.procs.take j).countP run7 ≤ j := Nat.le_trans List.countP_le_length (by simp; omega)
      have hct := countP_take (f := run7) hx
      simp [hS.P, hx, hr, encU32]
      by_cases e : x.state = 1
      · simp [hS.P, e]
        refine ⟨j + 1, hjl, by omega, Wk.regs ?_⟩
        rw [hct]
        simp [run7, e, wrap1 (n := j) (by omega)]
        rw [wrap64 (by omega) (by omega)]; exact Le.refl _
      · simp [hS.P, e]
        refine ⟨j + 1, hjl, by omega, Wk.regs ?_⟩
        rw [hct]
        simp [run7, e, wrap1 (n := j) (by omega)]
    · obtain rfl : j = s.procs.length := by omega
      rw [List.take_length]
      simp [hS.P]
      exact Leave.data hk0 (by simp) ⟨by rw [r7P, hk2]; simp; omega, rfl⟩
end Go.Proofs.YtndoembhbfiokaaGreatDoor.Am
set_option linter.unusedVariables false
set_option linter.unusedSimpArgs false
namespace Go.Proofs.YtndoembhbfiokaaGreatDoor.Am
open Go.RowKit Go.Proofs

def in9 (s : StateD) (t : TimerS) : Bool := !(decide (0 ≤ t.proc) && decide (t.proc < s.procs.length) && (match s.procs[t.proc.toNat]? with | some x => !decide (x.state = 2) | none => false))
def is9 (k : Nat) (t : TimerS) : Bool := decide (t.proc = (k : Int))
def g9 (s : StateD) (k : Nat) : Bool := match s.procs[k]? with
  | some x => !decide (x.wait = 1) || s.timers.any (is9 k)
  | none => true
def r9P (s : StateD) : Bool := s.timers.all (in9 s) && (List.range s.procs.length).all (g9 s)
theorem any_take {A : Type} {f : A → Bool} {l : List A} {k : Nat} {x : A} (h : l[k]? = some x) : (l.take (k + 1)).any f = ((l.take k).any f || f x) := by
  simp [List.take_add_one, h, List.any_append]
set_option maxRecDepth 4000 in
theorem rule9_spec {X : Ctx} (hS : Sent X) (s : StateD) (hs : s.WF) : ACalc X 134 [encState s] (.bool (r9P s)) := by
  intro H
  refine acalls' (N := 70) (rs := [.tmp 2]) [] (by rw [hS.P]; exact Tryz.func134) rfl rfl rfl (by decide) (by simp) ?_
  have hk0 : ∀ i, H.get i ≠ .free → (H.put H.nx (.row [encState s] 10 0)).get i = H.get i := put_keeps (by simp) (keeps_refl H)
  simp [entryR, hS.P]
  have hl := hs.timers
  have hlp := hs.procs
  refine AWp.loop (S := Nat) (fun k => k ≤ s.timers.length ∧ s.timers.all (in9 s) = (s.timers.drop k).all (in9 s))
    (fun k => [(1, .ptr H.nx 0 0 0), (3, .int .i64 k)]) (fun _ => H.put H.nx (.row [encState s] 10 0)) (fun k => s.timers.length - k) 0 ⟨Nat.zero_le _, rfl⟩ (Wk.regs (by simp)) fun k hk => ?_
  obtain ⟨hk1, hk2⟩ := hk
  refine aC_sound (lv := []) _ _ _ _ ?_
  simp [hS.P]
  refine aCond_dec (fun hlt => ?_) (fun hge => ?_)
  · obtain ⟨t, ht⟩ : ∃ t, s.timers[k]? = some t := ⟨s.timers[k], List.getElem?_eq_getElem hlt⟩
    have hd := all_drop ht (in9 s)
    have bad : in9 s t = false → Leave X H (.bool false) (H.put H.nx (.row [encState s] 10 0)) fun v' H' => v' = .bool (r9P s) ∧ H' = H := fun h => Leave.data hk0 (by simp) ⟨by rw [r9P, hk2, hd, h]; rfl, rfl⟩
    have good : in9 s t = true → s.timers.all (in9 s) = (s.timers.drop (k + 1)).all (in9 s) := fun h => by rw [hk2, hd, h]; simp
    simp [hS.P, ht]
    by_cases e1 : 0 ≤ t.proc
    rotate_left
    · simp [hS.P, e1]
      exact ⟨k + 1, ⟨hlt, good (by simp [in9, e1])⟩, by omega, Wk.regs (by simp [wrap1 (n := k) (by omega)])⟩
    by_cases e2 : t.proc < s.procs.length
    rotate_left
    · simp [hS.P, e1, e2]
      exact ⟨k + 1, ⟨hlt, good (by simp [in9, e1, e2])⟩, by omega, Wk.regs (by simp [wrap1 (n := k) (by omega)])⟩
    have hnl : t.proc.toNat < s.procs.length := by omega
    obtain ⟨x, hxe⟩ : ∃ x, s.procs[t.proc.toNat]'hnl = x := ⟨_, rfl⟩
    have hx : s.procs[t.proc.toNat]? = some x := by rw [List.getElem?_eq_getElem hnl, hxe]
    obtain ⟨a0, a1, a2, a3, a4, a5, a6, a7, a8, a9, a10, a11, a12, a13, a14, a15, hr⟩ := regs16 (hs.regs x (List.mem_of_getElem? hx))
    simp [hS.P, e1, e2, hx, hxe, hr, encU32]
    by_cases e3 : x.state = 2
    · simp [hS.P, e1, e2, hx, hxe, hr, encU32, e3]
      exact ⟨k + 1, ⟨hlt, good (by simp [in9, e1, e2, hx, hxe, e3])⟩, by omega, Wk.regs (by simp [wrap1 (n := k) (by omega)])⟩
    · simp [hS.P, e1, e2, hx, hxe, hr, encU32, e3]
      exact bad (by simp [in9, e1, e2, hx, hxe, e3])
  obtain rfl : k = s.timers.length := by omega
  rw [List.drop_length] at hk2
  simp [hS.P]
  refine AWp.loop (S := Nat) (fun k => k ≤ s.procs.length ∧ (List.range s.procs.length).all (g9 s) = ((List.range s.procs.length).drop k).all (g9 s))
    (fun k => [(1, .ptr H.nx 0 0 0), (5, .int .i64 k)]) (fun _ => H.put H.nx (.row [encState s] 10 0)) (fun k => s.procs.length - k) 0 ⟨Nat.zero_le _, rfl⟩ (Wk.regs (by simp)) fun k hk => ?_
  obtain ⟨hk3, hk4⟩ := hk
  refine aC_sound (lv := []) _ _ _ _ ?_
  simp [hS.P]
  refine aCond_dec (fun hlt => ?_) (fun hge => ?_)
  · obtain ⟨x, hx⟩ : ∃ x, s.procs[k]? = some x := ⟨s.procs[k], List.getElem?_eq_getElem hlt⟩
    obtain ⟨a0, a1, a2, a3, a4, a5, a6, a7, a8, a9, a10, a11, a12, a13, a14, a15, hr⟩ := regs16 (hs.regs x (List.mem_of_getElem? hx))
    have hd := all_drop (range_get hlt) (g9 s)
    have hg : g9 s k = (!decide (x.wait = 1) || s.timers.any (is9 k)) := by rw [g9, hx]
    have good : g9 s k = true → (List.range s.procs.length).all (g9 s) = ((List.range s.procs.length).drop (k + 1)).all (g9 s) := fun h => by rw [hk4, hd, h]; simp
    simp [hS.P, hx, hr, encU32]
    by_cases e1 : x.wait = 1
    rotate_left
    · simp [hS.P, e1]
      exact ⟨k + 1, ⟨hlt, good (by rw [hg]; simp [e1])⟩, by omega, Wk.regs (by simp [wrap1 (n := k) (by omega)])⟩
    simp [hS.P, e1]
    refine AWp.loop (S := Nat) (fun j => j ≤ s.timers.length)
      (fun j => [(1, .ptr H.nx 0 0 0), (5, .int .i64 k), (6, .bool ((s.timers.take j).any (is9 k))), (7, .int .i64 j)]) (fun _ => H.put H.nx (.row [encState s] 10 0)) (fun j => s.timers.length - j) 0 (Nat.zero_le _) (Wk.regs (by simp)) fun j hj => ?_
    refine aC_sound (lv := []) _ _ _ _ ?_
    simp [hS.P]
    refine aCond_dec (fun hjl => ?_) (fun hjg => ?_)
    · obtain ⟨t, ht⟩ : ∃ t, s.timers[j]? = some t := ⟨s.timers[j], List.getElem?_eq_getElem hjl⟩
      have hat := any_take (f := is9 k) ht
      simp [hS.P, ht]
      by_cases e2 : t.proc = k
      · simp [hS.P, e2]
        exact ⟨j + 1, hjl, by omega, Wk.regs (by simp [hat, is9, e2, wrap1 (n := j) (by omega)])⟩
      · simp [hS.P, e2]
        exact ⟨j + 1, hjl, by omega, Wk.regs (by simp [hat, is9, e2, wrap1 (n := j) (by omega)])⟩
    · obtain rfl : j = s.timers.length := by omega
      rw [List.take_length]
      simp [hS.P]
      cases e : s.timers.any (is9 k) with
      | true =>
        simp [hS.P]
        exact ⟨k + 1, ⟨hlt, good (by rw [hg, e]; simp)⟩, by omega, Wk.regs (by simp [wrap1 (n := k) (by omega)])⟩
      | false =>
        simp [hS.P]
        exact Leave.data hk0 (by simp) ⟨by rw [r9P, hk4, hd, hg, e]; simp [e1], rfl⟩
  · obtain rfl : k = s.procs.length := by omega
    have hz : (List.range s.procs.length).drop s.procs.length = [] := by rw [List.drop_eq_nil_iff]; simp
    rw [hz] at hk4
    simp [hS.P]
    exact Leave.data hk0 (by simp) ⟨by rw [r9P, hk2, hk4]; rfl, rfl⟩
end Go.Proofs.YtndoembhbfiokaaGreatDoor.Am
set_option linter.unusedVariables false
set_option linter.unusedSimpArgs false
namespace Go.Proofs.YtndoembhbfiokaaGreatDoor.Am
open Go.RowKit Go.Proofs

def ok8 (s : StateD) (w : TimerS) : Bool := !(decide (w.proc < 0) || decide ((s.procs.length : Int) ≤ w.proc) || decide (w.due < 0) || decide (1010000 < w.due))
def dup8 (l : List TimerS) (w : TimerS) (j : Nat) : Bool := match l[j]? with
  | some v => !decide (v.proc = w.proc)
  | none => true
def ord8 (l : List TimerS) (i : Nat) (w : TimerS) : Bool := match i with
  | 0 => true
  | i + 1 => match l[i]? with
    | some v => !(decide (w.due < v.due) || (decide (v.due = w.due) && decide (w.proc ≤ v.proc)))
    | none => true
def g8 (s : StateD) (i : Nat) : Bool := match s.timers[i]? with
  | some w => ok8 s w && (List.range i).all (dup8 s.timers w) && ord8 s.timers i w
  | none => true
def r8P (s : StateD) : Bool := (List.range s.timers.length).all (g8 s)
set_option maxRecDepth 4000 in
theorem rule8_spec {X : Ctx} (hS : Sent X) (s : StateD) (hs : s.WF) : ACalc X 133 [encState s] (.bool (r8P s)) := by
  intro H
  refine acalls' (N := 81) (rs := [.tmp 2]) [] (by rw [hS.P]; exact Tryz.func133) rfl rfl rfl (by decide) (by simp) ?_
  simp [entryR, hS.P]
  have hl := hs.timers
  have hlp := hs.procs
  refine AWp.loop (S := Nat × AH) (fun t => t.1 ≤ s.timers.length ∧ r8P s = ((List.range s.timers.length).drop t.1).all (g8 s) ∧ t.2.get H.nx = .row [encState s] 10 0 ∧ ∀ i, H.get i ≠ .free → t.2.get i = H.get i)
    (fun t => [(1, .ptr H.nx 0 0 0), (3, .int .i64 t.1)]) (fun t => t.2) (fun t => s.timers.length - t.1) (0, H.put H.nx (.row [encState s] 10 0)) ⟨Nat.zero_le _, rfl, AH.put_same _ _ _, put_keeps (AH.fresh H) (keeps_refl H)⟩ (Wk.regs (by simp)) fun t ht => ?_
  obtain ⟨k, K⟩ := t
  obtain ⟨hk1, hk2, g0, hk⟩ := ht
  simp only at hk1 hk2 g0 hk
  refine aC_sound (lv := []) _ _ _ _ ?_
  simp [hS.P, g0]
  refine aCond_dec (fun hlt => ?_) (fun hge => ?_)
  · obtain ⟨w, hw⟩ : ∃ w, s.timers[k]? = some w := ⟨s.timers[k], List.getElem?_eq_getElem hlt⟩
    have hd := all_drop (range_get hlt) (g8 s)
    have hg : g8 s k = (ok8 s w && (List.range k).all (dup8 s.timers w) && ord8 s.timers k w) := by rw [g8, hw]
    have hm := AH.lt_nx (AH.ne_free g0)
    have n0 : ¬ H.nx = K.nx := by omega
    have n0' : ¬ K.nx = H.nx := by omega
    simp [hS.P, g0, hw, n0, n0']
    generalize hM : (AH.put K K.nx _) = M
    have q0 : M.get H.nx = .row [encState s] 10 0 := by rw [← hM, AH.put_ne _ _ n0]; exact g0
    have q1 : M.get K.nx = .row [encTimerS w] 2 0 := by rw [← hM, AH.put_same]; rfl
    have hkM : ∀ i, H.get i ≠ .free → M.get i = H.get i := by rw [← hM]; exact put_keeps (keepsNx hk) hk
    generalize K.nx = t4 at *
    clear hM g0 hk K
    have bad : ∀ {N : AH}, (∀ i, H.get i ≠ .free → N.get i = H.get i) → g8 s k = false → Leave X H (.bool false) N fun v' H' => v' = .bool (r8P s) ∧ H' = H := fun hN h => Leave.data hN (by simp) ⟨by rw [hk2, hd, h]; rfl, rfl⟩
    have good : g8 s k = true → r8P s = ((List.range s.timers.length).drop (k + 1)).all (g8 s) := fun h => by rw [hk2, hd, h]; simp
    by_cases e1 : w.proc < 0
    · simp [hS.P, q0, q1, e1]
      exact bad hkM (by rw [hg]; simp [ok8, e1])
    by_cases e2 : (s.procs.length : Int) ≤ w.proc
    · simp [hS.P, q0, q1, e1, e2]
      exact bad hkM (by rw [hg]; simp [ok8, e2])
    by_cases e3 : w.due < 0
    · simp [hS.P, q0, q1, e1, e2, e3]
      exact bad hkM (by rw [hg]; simp [ok8, e3])
    by_cases e4 : 1010000 < w.due
    · simp [hS.P, q0, q1, e1, e2, e3, e4]
      exact bad hkM (by rw [hg]; simp [ok8, e4])
    have hok : ok8 s w = true := by simp [ok8]; omega
    simp [hS.P, q0, q1, e1, e2, e3, e4]
    refine AWp.loop (S := Nat) (fun j => j ≤ k ∧ (List.range k).all (dup8 s.timers w) = ((List.range k).drop j).all (dup8 s.timers w))
      (fun j => [(1, .ptr H.nx 0 0 0), (3, .int .i64 k), (4, .ptr t4 0 0 0), (5, .int .i64 j)]) (fun _ => M) (fun j => k - j) 0 ⟨Nat.zero_le _, rfl⟩ (Wk.regs (by simp)) fun j hj => ?_
    obtain ⟨hj1, hj2⟩ := hj
    refine aC_sound (lv := []) _ _ _ _ ?_
    simp [hS.P]
    refine aCond_dec (fun hjl => ?_) (fun hjg => ?_)
    · have hjl' : j < k := by omega
      obtain ⟨v, hv⟩ : ∃ v, s.timers[j]? = some v := ⟨s.timers[j]'(by omega), List.getElem?_eq_getElem _⟩
      have hjd := all_drop (range_get hjl') (dup8 s.timers w)
      simp [hS.P]
      rw [aC_draw (hc := by kernel_rfl)]
      simp [hS.P, q0, q1, hv]
      refine aIf_mk (chkH_reads (by simp)) ?_
      by_cases e5 : v.proc = w.proc
      · simp [hS.P, e5]
        exact bad hkM (by rw [hg, hj2, hjd]; simp [dup8, hv, e5])
      · simp [hS.P, e5]
        exact ⟨j + 1, ⟨hjl', by rw [hj2, hjd]; simp [dup8, hv, e5]⟩, by omega, Wk.regs (by simp [wrap1 (n := j) (by omega)])⟩
    · obtain rfl : j = k := by omega
      have hz : (List.range j).drop j = [] := by rw [List.drop_eq_nil_iff]; simp
      rw [hz] at hj2
      simp [hS.P]
      rcases j with _ | j
      · simp [hS.P]
        exact ⟨0 + 1, M, ⟨by omega, good (by rw [hg, hok, hj2]; rfl), q0, hkM⟩, by omega, Wk.regs (by simp [show IntKind.i64.wrap 1 = 1 from wrap64 (by omega) (by omega)])⟩
      · obtain ⟨v, hv⟩ : ∃ v, s.timers[j]? = some v := ⟨s.timers[j]'(by omega), List.getElem?_eq_getElem _⟩
        have wj : IntKind.i64.wrap (j : Int) = (j : Int) := wrap64 (by omega) (by omega)
        have w2 : IntKind.i64.wrap ((j : Int) + 1 + 1) = (j : Int) + 1 + 1 := wrap64 (by omega) (by omega)
        have m4 := AH.lt_nx (AH.ne_free q1)
        have c0 : ¬ H.nx = M.nx := by omega
        have c1 : ¬ t4 = M.nx := by omega
        have c2 : ¬ M.nx = t4 := by omega
        have hod : ord8 s.timers (j + 1) w = !(decide (w.due < v.due) || (decide (v.due = w.due) && decide (w.proc ≤ v.proc))) := by rw [ord8, hv]
        have hkM2 : ∀ (x : Slot) i, H.get i ≠ .free → (M.put M.nx x).get i = H.get i := fun x => put_keeps (keepsNx hkM) hkM
        have next : ord8 s.timers (j + 1) w = true → r8P s = ((List.range s.timers.length).drop (j + 1 + 1)).all (g8 s) := fun h => good (by rw [hg, hok, hj2, h]; rfl)
        have stop : ord8 s.timers (j + 1) w = false → g8 s (j + 1) = false := fun h => by rw [hg, h]; simp
        simp [hS.P, q0, q1, wj, hv]
        by_cases e5 : w.due < v.due
        · simp [hS.P, q0, q1, wj, hv, e5, c0, c1, c2]
          exact bad (hkM2 _) (stop (by rw [hod]; simp [e5]))
        by_cases e6 : v.due = w.due
        · by_cases e7 : w.proc ≤ v.proc
          · simp [hS.P, q0, q1, wj, hv, e5, e6, e7, c0, c1, c2]
            exact bad (hkM2 _) (stop (by rw [hod]; simp [e6, e7]))
          · simp [hS.P, q0, q1, wj, hv, e5, e6, e7, c0, c1, c2]
            refine ⟨j + 1 + 1, _, ⟨by omega, next (by rw [hod]; simp [e6, e7]), ?_, hkM2 _⟩, by omega, Wk.regs (by simp [w2])⟩
            rw [AH.put_ne _ _ c0]; exact q0
        · simp [hS.P, q0, q1, wj, hv, e5, e6, c0, c1, c2]
          refine ⟨j + 1 + 1, _, ⟨by omega, next (by rw [hod]; simp [e5, e6]), ?_, hkM2 _⟩, by omega, Wk.regs (by simp [w2])⟩
          rw [AH.put_ne _ _ c0]; exact q0
  · obtain rfl : k = s.timers.length := by omega
    have hz : (List.range s.timers.length).drop s.timers.length = [] := by rw [List.drop_eq_nil_iff]; simp
    rw [hz] at hk2
    simp [hS.P]
    exact Leave.data hk (by simp) ⟨by rw [hk2]; rfl, rfl⟩
end Go.Proofs.YtndoembhbfiokaaGreatDoor.Am
set_option linter.unusedVariables false
set_option linter.unusedSimpArgs false
namespace Go.Proofs.YtndoembhbfiokaaGreatDoor.Am
open Go.RowKit Go.Proofs

def sem10 (n : Int) : Bool := !(decide (n < 0) || decide (255 < n))
/-- The document's rules, by number. -/
def keptP (p : PlanD) (s : StateD) : Nat → Bool
  | 1 => decide (s.id = p.id)
  | 2 => decide (0 ≤ s.frame) && decide (s.frame ≤ 2147483647) && decide (0 ≤ s.epoch) && decide (s.epoch ≤ 2147483647)
  | 3 => decide (s.procs.length = p.procs.length) && decide (s.ports.length = p.ports.length) && decide (s.pages.length = p.pages.length) && decide ((s.up.length : Int) = p.events) && decide (s.sems.length = p.sems.length)
  | 10 => s.sems.all sem10
  | 4 => s.procs.all r4P
  | 5 => s.procs.all r5P
  | 6 => s.procs.all (objectP p)
  | 7 => r7P s
  | 8 => r8P s
  | 9 => r9P s
  | 11 => (s.ports.zip p.ports).all r11P
  | 12 => (s.ports.zip p.ports).all r12P
  | 13 => (s.pages.zip p.pages).all r13P
  | 14 => s.procs.all (r14P p s)
  | 15 => s.procs.all (r15P p s)
  | 16 => s.procs.all (r16P p s)
  | 17 => (s.ports.zip p.ports).all r17P
  | _ => true
theorem keptMore11 {X : Ctx} (hS : Sent X) (p : PlanD) (hp : p.Small) (s : StateD) (hs : s.WF) : ACalc X 135 [.int .i64 11, encPlan p, encState s] (.bool (keptP p s 11)) := by
  intro H
  refine acalls' (N := 41) (rs := [.tmp 6]) [] (by rw [hS.P]; exact Tryz.func135) rfl rfl rfl (by decide) (by simp) ?_
  have f1 : H.get (H.nx + 1) = .free := AH.free_add H 1
  have hk0 : ∀ i, H.get i ≠ .free → ((H.put H.nx (.row [encPlan p] 7 0)).put (H.nx + 1) (.row [encState s] 10 0)).get i = H.get i := put_keeps f1 (put_keeps (by simp) (keeps_refl H))
  simp [entryR, hS.P]
  refine (rule11_spec hS p hp s hs).go ?_
  simp [hS.P]
  exact Leave.data hk0 (by simp) ⟨rfl, rfl⟩
theorem keptMore12 {X : Ctx} (hS : Sent X) (p : PlanD) (hp : p.Small) (s : StateD) (hs : s.WF) : ACalc X 135 [.int .i64 12, encPlan p, encState s] (.bool (keptP p s 12)) := by
  intro H
  refine acalls' (N := 41) (rs := [.tmp 6]) [] (by rw [hS.P]; exact Tryz.func135) rfl rfl rfl (by decide) (by simp) ?_
  have f1 : H.get (H.nx + 1) = .free := AH.free_add H 1
  have hk0 : ∀ i, H.get i ≠ .free → ((H.put H.nx (.row [encPlan p] 7 0)).put (H.nx + 1) (.row [encState s] 10 0)).get i = H.get i := put_keeps f1 (put_keeps (by simp) (keeps_refl H))
  simp [entryR, hS.P]
  refine (rule12_spec hS p hp s hs).go ?_
  simp [hS.P]
  exact Leave.data hk0 (by simp) ⟨rfl, rfl⟩
theorem keptMore13 {X : Ctx} (hS : Sent X) (p : PlanD) (hp : p.Small) (s : StateD) (hs : s.WF) : ACalc X 135 [.int .i64 13, encPlan p, encState s] (.bool (keptP p s 13)) := by
  intro H
  refine acalls' (N := 41) (rs := [.tmp 6]) [] (by rw [hS.P]; exact Tryz.func135) rfl rfl rfl (by decide) (by simp) ?_
  have f1 : H.get (H.nx + 1) = .free := AH.free_add H 1
  have hk0 : ∀ i, H.get i ≠ .free → ((H.put H.nx (.row [encPlan p] 7 0)).put (H.nx + 1) (.row [encState s] 10 0)).get i = H.get i := put_keeps f1 (put_keeps (by simp) (keeps_refl H))
  simp [entryR, hS.P]
  refine (rule13_spec hS p hp s hs).go ?_
  simp [hS.P]
  exact Leave.data hk0 (by simp) ⟨rfl, rfl⟩
theorem keptMore14 {X : Ctx} (hS : Sent X) (p : PlanD) (hp : p.Small) (s : StateD) (hs : s.WF) : ACalc X 135 [.int .i64 14, encPlan p, encState s] (.bool (keptP p s 14)) := by
  intro H
  refine acalls' (N := 41) (rs := [.tmp 6]) [] (by rw [hS.P]; exact Tryz.func135) rfl rfl rfl (by decide) (by simp) ?_
  have f1 : H.get (H.nx + 1) = .free := AH.free_add H 1
  have hk0 : ∀ i, H.get i ≠ .free → ((H.put H.nx (.row [encPlan p] 7 0)).put (H.nx + 1) (.row [encState s] 10 0)).get i = H.get i := put_keeps f1 (put_keeps (by simp) (keeps_refl H))
  simp [entryR, hS.P]
  refine (rule14_spec hS p hp s hs).go ?_
  simp [hS.P]
  exact Leave.data hk0 (by simp) ⟨rfl, rfl⟩
theorem keptMore15 {X : Ctx} (hS : Sent X) (p : PlanD) (hp : p.Small) (s : StateD) (hs : s.WF) : ACalc X 135 [.int .i64 15, encPlan p, encState s] (.bool (keptP p s 15)) := by
  intro H
  refine acalls' (N := 41) (rs := [.tmp 6]) [] (by rw [hS.P]; exact Tryz.func135) rfl rfl rfl (by decide) (by simp) ?_
  have f1 : H.get (H.nx + 1) = .free := AH.free_add H 1
  have hk0 : ∀ i, H.get i ≠ .free → ((H.put H.nx (.row [encPlan p] 7 0)).put (H.nx + 1) (.row [encState s] 10 0)).get i = H.get i := put_keeps f1 (put_keeps (by simp) (keeps_refl H))
  simp [entryR, hS.P]
  refine (rule15_spec hS p hp s hs).go ?_
  simp [hS.P]
  exact Leave.data hk0 (by simp) ⟨rfl, rfl⟩
theorem keptMore16 {X : Ctx} (hS : Sent X) (p : PlanD) (hp : p.Small) (s : StateD) (hs : s.WF) : ACalc X 135 [.int .i64 16, encPlan p, encState s] (.bool (keptP p s 16)) := by
  intro H
  refine acalls' (N := 41) (rs := [.tmp 6]) [] (by rw [hS.P]; exact Tryz.func135) rfl rfl rfl (by decide) (by simp) ?_
  have f1 : H.get (H.nx + 1) = .free := AH.free_add H 1
  have hk0 : ∀ i, H.get i ≠ .free → ((H.put H.nx (.row [encPlan p] 7 0)).put (H.nx + 1) (.row [encState s] 10 0)).get i = H.get i := put_keeps f1 (put_keeps (by simp) (keeps_refl H))
  simp [entryR, hS.P]
  refine (rule16_spec hS p hp s hs).go ?_
  simp [hS.P]
  exact Leave.data hk0 (by simp) ⟨rfl, rfl⟩
theorem keptMore17 {X : Ctx} (hS : Sent X) (p : PlanD) (hp : p.Small) (s : StateD) (hs : s.WF) : ACalc X 135 [.int .i64 17, encPlan p, encState s] (.bool (keptP p s 17)) := by
  intro H
  refine acalls' (N := 41) (rs := [.tmp 6]) [] (by rw [hS.P]; exact Tryz.func135) rfl rfl rfl (by decide) (by simp) ?_
  have f1 : H.get (H.nx + 1) = .free := AH.free_add H 1
  have hk0 : ∀ i, H.get i ≠ .free → ((H.put H.nx (.row [encPlan p] 7 0)).put (H.nx + 1) (.row [encState s] 10 0)).get i = H.get i := put_keeps f1 (put_keeps (by simp) (keeps_refl H))
  simp [entryR, hS.P]
  refine (rule17_spec hS p hp s hs).go ?_
  simp [hS.P]
  exact Leave.data hk0 (by simp) ⟨rfl, rfl⟩
set_option maxRecDepth 8000 in
theorem kept1 {X : Ctx} (hS : Sent X) (p : PlanD) (hp : p.Small) (s : StateD) (hs : s.WF) : ACalc X 107 [.int .i64 1, encPlan p, encState s] (.bool (keptP p s 1)) := by
  intro H
  refine acalls' (N := 132) (rs := [.tmp 6]) [] (by rw [hS.P]; exact Tryz.func107) rfl rfl rfl (by decide) (by simp) ?_
  have f1 : H.get (H.nx + 1) = .free := AH.free_add H 1
  have hk0 : ∀ i, H.get i ≠ .free → ((H.put H.nx (.row [encPlan p] 7 0)).put (H.nx + 1) (.row [encState s] 10 0)).get i = H.get i := put_keeps f1 (put_keeps (by simp) (keeps_refl H))
  simp [entryR, hS.P]
  exact Leave.data hk0 (by simp) ⟨rfl, rfl⟩
set_option maxRecDepth 8000 in
theorem kept2 {X : Ctx} (hS : Sent X) (p : PlanD) (hp : p.Small) (s : StateD) (hs : s.WF) : ACalc X 107 [.int .i64 2, encPlan p, encState s] (.bool (keptP p s 2)) := by
  intro H
  refine acalls' (N := 132) (rs := [.tmp 6]) [] (by rw [hS.P]; exact Tryz.func107) rfl rfl rfl (by decide) (by simp) ?_
  have f1 : H.get (H.nx + 1) = .free := AH.free_add H 1
  have hk0 : ∀ i, H.get i ≠ .free → ((H.put H.nx (.row [encPlan p] 7 0)).put (H.nx + 1) (.row [encState s] 10 0)).get i = H.get i := put_keeps f1 (put_keeps (by simp) (keeps_refl H))
  simp [entryR, hS.P]
  by_cases e0 : 0 ≤ s.frame
  rotate_left
  · simp [hS.P, e0]
    have d0 : ¬ 0 ≤ s.frame := by omega
    exact Leave.data hk0 (by simp) ⟨by simp [keptP, d0], rfl⟩
  by_cases e1 : s.frame ≤ 2147483647
  rotate_left
  · simp [hS.P, e0, e1]
    have d1 : ¬ s.frame ≤ 2147483647 := by omega
    exact Leave.data hk0 (by simp) ⟨by simp [keptP, d1], rfl⟩
  by_cases e2 : 0 ≤ s.epoch
  rotate_left
  · simp [hS.P, e0, e1, e2]
    have d2 : ¬ 0 ≤ s.epoch := by omega
    exact Leave.data hk0 (by simp) ⟨by simp [keptP, d2], rfl⟩
  by_cases e3 : s.epoch ≤ 2147483647
  rotate_left
  · simp [hS.P, e0, e1, e2, e3]
    have d3 : ¬ s.epoch ≤ 2147483647 := by omega
    exact Leave.data hk0 (by simp) ⟨by simp [keptP, d3], rfl⟩
  simp [hS.P, e0, e1, e2, e3]
  have d0 : 0 ≤ s.frame := by omega
  have d1 : s.frame ≤ 2147483647 := by omega
  have d2 : 0 ≤ s.epoch := by omega
  have d3 : s.epoch ≤ 2147483647 := by omega
  exact Leave.data hk0 (by simp) ⟨by simp [keptP, d0, d1, d2, d3], rfl⟩
set_option maxRecDepth 8000 in
theorem kept3 {X : Ctx} (hS : Sent X) (p : PlanD) (hp : p.Small) (s : StateD) (hs : s.WF) : ACalc X 107 [.int .i64 3, encPlan p, encState s] (.bool (keptP p s 3)) := by
  intro H
  refine acalls' (N := 132) (rs := [.tmp 6]) [] (by rw [hS.P]; exact Tryz.func107) rfl rfl rfl (by decide) (by simp) ?_
  have f1 : H.get (H.nx + 1) = .free := AH.free_add H 1
  have hk0 : ∀ i, H.get i ≠ .free → ((H.put H.nx (.row [encPlan p] 7 0)).put (H.nx + 1) (.row [encState s] 10 0)).get i = H.get i := put_keeps f1 (put_keeps (by simp) (keeps_refl H))
  simp [entryR, hS.P]
  by_cases e0 : (s.procs.length : Int) = p.procs.length
  rotate_left
  · simp [hS.P, e0]
    have d0 : ¬ s.procs.length = p.procs.length := by omega
    exact Leave.data hk0 (by simp) ⟨by simp [keptP, d0], rfl⟩
  by_cases e1 : (s.ports.length : Int) = p.ports.length
  rotate_left
  · simp [hS.P, e0, e1]
    have d1 : ¬ s.ports.length = p.ports.length := by omega
    exact Leave.data hk0 (by simp) ⟨by simp [keptP, d1], rfl⟩
  by_cases e2 : (s.pages.length : Int) = p.pages.length
  rotate_left
  · simp [hS.P, e0, e1, e2]
    have d2 : ¬ s.pages.length = p.pages.length := by omega
    exact Leave.data hk0 (by simp) ⟨by simp [keptP, d2], rfl⟩
  by_cases e3 : (s.up.length : Int) = p.events
  rotate_left
  · simp [hS.P, e0, e1, e2, e3]
    have d3 : ¬ (s.up.length : Int) = p.events := by omega
    exact Leave.data hk0 (by simp) ⟨by simp [keptP, d3], rfl⟩
  by_cases e4 : (s.sems.length : Int) = p.sems.length
  rotate_left
  · simp [hS.P, e0, e1, e2, e3, e4]
    have d4 : ¬ s.sems.length = p.sems.length := by omega
    exact Leave.data hk0 (by simp) ⟨by simp [keptP, d4], rfl⟩
  simp [hS.P, e0, e1, e2, e3, e4]
  have d0 : s.procs.length = p.procs.length := by omega
  have d1 : s.ports.length = p.ports.length := by omega
  have d2 : s.pages.length = p.pages.length := by omega
  have d3 : (s.up.length : Int) = p.events := by omega
  have d4 : s.sems.length = p.sems.length := by omega
  exact Leave.data hk0 (by simp) ⟨by simp [keptP, d0, d1, d2, d3, d4], rfl⟩
set_option maxRecDepth 8000 in
theorem kept4 {X : Ctx} (hS : Sent X) (p : PlanD) (hp : p.Small) (s : StateD) (hs : s.WF) : ACalc X 107 [.int .i64 4, encPlan p, encState s] (.bool (keptP p s 4)) := by
  intro H
  refine acalls' (N := 132) (rs := [.tmp 6]) [] (by rw [hS.P]; exact Tryz.func107) rfl rfl rfl (by decide) (by simp) ?_
  have f1 : H.get (H.nx + 1) = .free := AH.free_add H 1
  have hk0 : ∀ i, H.get i ≠ .free → ((H.put H.nx (.row [encPlan p] 7 0)).put (H.nx + 1) (.row [encState s] 10 0)).get i = H.get i := put_keeps f1 (put_keeps (by simp) (keeps_refl H))
  simp [entryR, hS.P]
  refine (rule4_spec hS s hs).go ?_
  simp [hS.P]
  exact Leave.data hk0 (by simp) ⟨rfl, rfl⟩
set_option maxRecDepth 8000 in
theorem kept5 {X : Ctx} (hS : Sent X) (p : PlanD) (hp : p.Small) (s : StateD) (hs : s.WF) : ACalc X 107 [.int .i64 5, encPlan p, encState s] (.bool (keptP p s 5)) := by
  intro H
  refine acalls' (N := 132) (rs := [.tmp 6]) [] (by rw [hS.P]; exact Tryz.func107) rfl rfl rfl (by decide) (by simp) ?_
  have f1 : H.get (H.nx + 1) = .free := AH.free_add H 1
  have hk0 : ∀ i, H.get i ≠ .free → ((H.put H.nx (.row [encPlan p] 7 0)).put (H.nx + 1) (.row [encState s] 10 0)).get i = H.get i := put_keeps f1 (put_keeps (by simp) (keeps_refl H))
  simp [entryR, hS.P]
  refine (rule5_spec hS s hs).go ?_
  simp [hS.P]
  exact Leave.data hk0 (by simp) ⟨rfl, rfl⟩
set_option maxRecDepth 8000 in
theorem kept6 {X : Ctx} (hS : Sent X) (p : PlanD) (hp : p.Small) (s : StateD) (hs : s.WF) : ACalc X 107 [.int .i64 6, encPlan p, encState s] (.bool (keptP p s 6)) := by
  intro H
  refine acalls' (N := 132) (rs := [.tmp 6]) [] (by rw [hS.P]; exact Tryz.func107) rfl rfl rfl (by decide) (by simp) ?_
  have f1 : H.get (H.nx + 1) = .free := AH.free_add H 1
  have hk0 : ∀ i, H.get i ≠ .free → ((H.put H.nx (.row [encPlan p] 7 0)).put (H.nx + 1) (.row [encState s] 10 0)).get i = H.get i := put_keeps f1 (put_keeps (by simp) (keeps_refl H))
  simp [entryR, hS.P]
  refine (rule6_spec hS p hp s hs).go ?_
  simp [hS.P]
  exact Leave.data hk0 (by simp) ⟨rfl, rfl⟩
set_option maxRecDepth 8000 in
theorem kept7 {X : Ctx} (hS : Sent X) (p : PlanD) (hp : p.Small) (s : StateD) (hs : s.WF) : ACalc X 107 [.int .i64 7, encPlan p, encState s] (.bool (keptP p s 7)) := by
  intro H
  refine acalls' (N := 132) (rs := [.tmp 6]) [] (by rw [hS.P]; exact Tryz.func107) rfl rfl rfl (by decide) (by simp) ?_
  have f1 : H.get (H.nx + 1) = .free := AH.free_add H 1
  have hk0 : ∀ i, H.get i ≠ .free → ((H.put H.nx (.row [encPlan p] 7 0)).put (H.nx + 1) (.row [encState s] 10 0)).get i = H.get i := put_keeps f1 (put_keeps (by simp) (keeps_refl H))
  simp [entryR, hS.P]
  refine (rule7_spec hS s hs).go ?_
  simp [hS.P]
  exact Leave.data hk0 (by simp) ⟨rfl, rfl⟩
set_option maxRecDepth 8000 in
theorem kept8 {X : Ctx} (hS : Sent X) (p : PlanD) (hp : p.Small) (s : StateD) (hs : s.WF) : ACalc X 107 [.int .i64 8, encPlan p, encState s] (.bool (keptP p s 8)) := by
  intro H
  refine acalls' (N := 132) (rs := [.tmp 6]) [] (by rw [hS.P]; exact Tryz.func107) rfl rfl rfl (by decide) (by simp) ?_
  have f1 : H.get (H.nx + 1) = .free := AH.free_add H 1
  have hk0 : ∀ i, H.get i ≠ .free → ((H.put H.nx (.row [encPlan p] 7 0)).put (H.nx + 1) (.row [encState s] 10 0)).get i = H.get i := put_keeps f1 (put_keeps (by simp) (keeps_refl H))
  simp [entryR, hS.P]
  refine (rule8_spec hS s hs).go ?_
  simp [hS.P]
  exact Leave.data hk0 (by simp) ⟨rfl, rfl⟩
set_option maxRecDepth 8000 in
theorem kept9 {X : Ctx} (hS : Sent X) (p : PlanD) (hp : p.Small) (s : StateD) (hs : s.WF) : ACalc X 107 [.int .i64 9, encPlan p, encState s] (.bool (keptP p s 9)) := by
  intro H
  refine acalls' (N := 132) (rs := [.tmp 6]) [] (by rw [hS.P]; exact Tryz.func107) rfl rfl rfl (by decide) (by simp) ?_
  have f1 : H.get (H.nx + 1) = .free := AH.free_add H 1
  have hk0 : ∀ i, H.get i ≠ .free → ((H.put H.nx (.row [encPlan p] 7 0)).put (H.nx + 1) (.row [encState s] 10 0)).get i = H.get i := put_keeps f1 (put_keeps (by simp) (keeps_refl H))
  simp [entryR, hS.P]
  refine (rule9_spec hS s hs).go ?_
  simp [hS.P]
  exact Leave.data hk0 (by simp) ⟨rfl, rfl⟩
set_option maxRecDepth 8000 in
theorem kept10 {X : Ctx} (hS : Sent X) (p : PlanD) (hp : p.Small) (s : StateD) (hs : s.WF) : ACalc X 107 [.int .i64 10, encPlan p, encState s] (.bool (keptP p s 10)) := by
  intro H
  refine acalls' (N := 132) (rs := [.tmp 6]) [] (by rw [hS.P]; exact Tryz.func107) rfl rfl rfl (by decide) (by simp) ?_
  have f1 : H.get (H.nx + 1) = .free := AH.free_add H 1
  have hk0 : ∀ i, H.get i ≠ .free → ((H.put H.nx (.row [encPlan p] 7 0)).put (H.nx + 1) (.row [encState s] 10 0)).get i = H.get i := put_keeps f1 (put_keeps (by simp) (keeps_refl H))
  simp [entryR, hS.P]
  have hl := hs.sems
  refine AWp.loop (S := Nat) (fun k => k ≤ s.sems.length ∧ s.sems.all sem10 = (s.sems.drop k).all sem10)
    (fun k => [(4, .ptr H.nx 0 0 0), (5, .ptr (H.nx + 1) 0 0 0), (7, .int .i64 k)]) (fun _ => (H.put H.nx (.row [encPlan p] 7 0)).put (H.nx + 1) (.row [encState s] 10 0)) (fun k => s.sems.length - k) 0 ⟨Nat.zero_le _, rfl⟩ (Wk.regs (by simp)) fun k hk => ?_
  obtain ⟨hk1, hk2⟩ := hk
  refine aC_sound (lv := []) _ _ _ _ ?_
  simp [hS.P]
  refine aCond_dec (fun hlt => ?_) (fun hge => ?_)
  · obtain ⟨x, hx⟩ : ∃ x, s.sems[k]? = some x := ⟨s.sems[k], List.getElem?_eq_getElem hlt⟩
    have hd := all_drop hx sem10
    simp [hS.P, hx, encInt]
    by_cases e1 : x < 0
    · simp [hS.P, hx, encInt, e1]
      exact Leave.data hk0 (by simp) ⟨by rw [keptP, hk2, hd]; simp [sem10, e1], rfl⟩
    by_cases e2 : 255 < x
    · simp [hS.P, hx, encInt, e1, e2]
      exact Leave.data hk0 (by simp) ⟨by rw [keptP, hk2, hd]; simp [sem10, e2], rfl⟩
    · simp [hS.P, hx, encInt, e1, e2]
      exact ⟨k + 1, ⟨hlt, by rw [hk2, hd]; simp [sem10, e1, e2]⟩, by omega, Wk.regs (by simp [wrap1 (n := k) (by omega)])⟩
  · obtain rfl : k = s.sems.length := by omega
    simp
    exact Leave.data hk0 (by simp) ⟨by rw [keptP, hk2, List.drop_length]; rfl, rfl⟩
set_option maxRecDepth 8000 in
theorem kept11 {X : Ctx} (hS : Sent X) (p : PlanD) (hp : p.Small) (s : StateD) (hs : s.WF) : ACalc X 107 [.int .i64 11, encPlan p, encState s] (.bool (keptP p s 11)) := by
  intro H
  refine acalls' (N := 132) (rs := [.tmp 6]) [] (by rw [hS.P]; exact Tryz.func107) rfl rfl rfl (by decide) (by simp) ?_
  have f1 : H.get (H.nx + 1) = .free := AH.free_add H 1
  have hk0 : ∀ i, H.get i ≠ .free → ((H.put H.nx (.row [encPlan p] 7 0)).put (H.nx + 1) (.row [encState s] 10 0)).get i = H.get i := put_keeps f1 (put_keeps (by simp) (keeps_refl H))
  simp [entryR, hS.P]
  refine (keptMore11 hS p hp s hs).go ?_
  simp [hS.P]
  exact Leave.data hk0 (by simp) ⟨rfl, rfl⟩
set_option maxRecDepth 8000 in
theorem kept12 {X : Ctx} (hS : Sent X) (p : PlanD) (hp : p.Small) (s : StateD) (hs : s.WF) : ACalc X 107 [.int .i64 12, encPlan p, encState s] (.bool (keptP p s 12)) := by
  intro H
  refine acalls' (N := 132) (rs := [.tmp 6]) [] (by rw [hS.P]; exact Tryz.func107) rfl rfl rfl (by decide) (by simp) ?_
  have f1 : H.get (H.nx + 1) = .free := AH.free_add H 1
  have hk0 : ∀ i, H.get i ≠ .free → ((H.put H.nx (.row [encPlan p] 7 0)).put (H.nx + 1) (.row [encState s] 10 0)).get i = H.get i := put_keeps f1 (put_keeps (by simp) (keeps_refl H))
  simp [entryR, hS.P]
  refine (keptMore12 hS p hp s hs).go ?_
  simp [hS.P]
  exact Leave.data hk0 (by simp) ⟨rfl, rfl⟩
set_option maxRecDepth 8000 in
theorem kept13 {X : Ctx} (hS : Sent X) (p : PlanD) (hp : p.Small) (s : StateD) (hs : s.WF) : ACalc X 107 [.int .i64 13, encPlan p, encState s] (.bool (keptP p s 13)) := by
  intro H
  refine acalls' (N := 132) (rs := [.tmp 6]) [] (by rw [hS.P]; exact Tryz.func107) rfl rfl rfl (by decide) (by simp) ?_
  have f1 : H.get (H.nx + 1) = .free := AH.free_add H 1
  have hk0 : ∀ i, H.get i ≠ .free → ((H.put H.nx (.row [encPlan p] 7 0)).put (H.nx + 1) (.row [encState s] 10 0)).get i = H.get i := put_keeps f1 (put_keeps (by simp) (keeps_refl H))
  simp [entryR, hS.P]
  refine (keptMore13 hS p hp s hs).go ?_
  simp [hS.P]
  exact Leave.data hk0 (by simp) ⟨rfl, rfl⟩
set_option maxRecDepth 8000 in
theorem kept14 {X : Ctx} (hS : Sent X) (p : PlanD) (hp : p.Small) (s : StateD) (hs : s.WF) : ACalc X 107 [.int .i64 14, encPlan p, encState s] (.bool (keptP p s 14)) := by
  intro H
  refine acalls' (N := 132) (rs := [.tmp 6]) [] (by rw [hS.P]; exact Tryz.func107) rfl rfl rfl (by decide) (by simp) ?_
  have f1 : H.get (H.nx + 1) = .free := AH.free_add H 1
  have hk0 : ∀ i, H.get i ≠ .free → ((H.put H.nx (.row [encPlan p] 7 0)).put (H.nx + 1) (.row [encState s] 10 0)).get i = H.get i := put_keeps f1 (put_keeps (by simp) (keeps_refl H))
  simp [entryR, hS.P]
  refine (keptMore14 hS p hp s hs).go ?_
  simp [hS.P]
  exact Leave.data hk0 (by simp) ⟨rfl, rfl⟩
set_option maxRecDepth 8000 in
theorem kept15 {X : Ctx} (hS : Sent X) (p : PlanD) (hp : p.Small) (s : StateD) (hs : s.WF) : ACalc X 107 [.int .i64 15, encPlan p, encState s] (.bool (keptP p s 15)) := by
  intro H
  refine acalls' (N := 132) (rs := [.tmp 6]) [] (by rw [hS.P]; exact Tryz.func107) rfl rfl rfl (by decide) (by simp) ?_
  have f1 : H.get (H.nx + 1) = .free := AH.free_add H 1
  have hk0 : ∀ i, H.get i ≠ .free → ((H.put H.nx (.row [encPlan p] 7 0)).put (H.nx + 1) (.row [encState s] 10 0)).get i = H.get i := put_keeps f1 (put_keeps (by simp) (keeps_refl H))
  simp [entryR, hS.P]
  refine (keptMore15 hS p hp s hs).go ?_
  simp [hS.P]
  exact Leave.data hk0 (by simp) ⟨rfl, rfl⟩
set_option maxRecDepth 8000 in
theorem kept16 {X : Ctx} (hS : Sent X) (p : PlanD) (hp : p.Small) (s : StateD) (hs : s.WF) : ACalc X 107 [.int .i64 16, encPlan p, encState s] (.bool (keptP p s 16)) := by
  intro H
  refine acalls' (N := 132) (rs := [.tmp 6]) [] (by rw [hS.P]; exact Tryz.func107) rfl rfl rfl (by decide) (by simp) ?_
  have f1 : H.get (H.nx + 1) = .free := AH.free_add H 1
  have hk0 : ∀ i, H.get i ≠ .free → ((H.put H.nx (.row [encPlan p] 7 0)).put (H.nx + 1) (.row [encState s] 10 0)).get i = H.get i := put_keeps f1 (put_keeps (by simp) (keeps_refl H))
  simp [entryR, hS.P]
  refine (keptMore16 hS p hp s hs).go ?_
  simp [hS.P]
  exact Leave.data hk0 (by simp) ⟨rfl, rfl⟩
set_option maxRecDepth 8000 in
theorem kept17 {X : Ctx} (hS : Sent X) (p : PlanD) (hp : p.Small) (s : StateD) (hs : s.WF) : ACalc X 107 [.int .i64 17, encPlan p, encState s] (.bool (keptP p s 17)) := by
  intro H
  refine acalls' (N := 132) (rs := [.tmp 6]) [] (by rw [hS.P]; exact Tryz.func107) rfl rfl rfl (by decide) (by simp) ?_
  have f1 : H.get (H.nx + 1) = .free := AH.free_add H 1
  have hk0 : ∀ i, H.get i ≠ .free → ((H.put H.nx (.row [encPlan p] 7 0)).put (H.nx + 1) (.row [encState s] 10 0)).get i = H.get i := put_keeps f1 (put_keeps (by simp) (keeps_refl H))
  simp [entryR, hS.P]
  refine (keptMore17 hS p hp s hs).go ?_
  simp [hS.P]
  exact Leave.data hk0 (by simp) ⟨rfl, rfl⟩
theorem kept_spec {X : Ctx} (hS : Sent X) (p : PlanD) (hp : p.Small) (s : StateD) (hs : s.WF) (n : Nat) (h1 : 1 ≤ n) (h2 : n ≤ 17) : ACalc X 107 [.int .i64 n, encPlan p, encState s] (.bool (keptP p s n)) := by
  match n, h1, h2 with
  | 1, _, _ => exact kept1 hS p hp s hs
  | 2, _, _ => exact kept2 hS p hp s hs
  | 3, _, _ => exact kept3 hS p hp s hs
  | 4, _, _ => exact kept4 hS p hp s hs
  | 5, _, _ => exact kept5 hS p hp s hs
  | 6, _, _ => exact kept6 hS p hp s hs
  | 7, _, _ => exact kept7 hS p hp s hs
  | 8, _, _ => exact kept8 hS p hp s hs
  | 9, _, _ => exact kept9 hS p hp s hs
  | 10, _, _ => exact kept10 hS p hp s hs
  | 11, _, _ => exact kept11 hS p hp s hs
  | 12, _, _ => exact kept12 hS p hp s hs
  | 13, _, _ => exact kept13 hS p hp s hs
  | 14, _, _ => exact kept14 hS p hp s hs
  | 15, _, _ => exact kept15 hS p hp s hs
  | 16, _, _ => exact kept16 hS p hp s hs
  | 17, _, _ => exact kept17 hS p hp s hs
  | n + 18, _, h => omega
end Go.Proofs.YtndoembhbfiokaaGreatDoor.Am
set_option linter.unusedVariables false
set_option linter.unusedSimpArgs false
namespace Go.Proofs.YtndoembhbfiokaaGreatDoor.Am
open Go.RowKit Go.Proofs

def faultK (p : PlanD) (s : StateD) (k : Nat) : List Int := ((List.range k).filter fun i => !keptP p s (i + 1)).map fun i : Nat => (i : Int) + 1
theorem faultK_len (p : PlanD) (s : StateD) (k : Nat) : (faultK p s k).length ≤ k := by
  unfold faultK; rw [List.length_map]; exact Nat.le_trans (List.length_filter_le _ _) (by simp)
theorem faultK_step (p : PlanD) (s : StateD) (k : Nat) : faultK p s (k + 1) = faultK p s k ++ if keptP p s (k + 1) = true then [] else [(k : Int) + 1] := by
  unfold faultK
  rw [List.range_succ, List.filter_append, List.map_append]
  congr 1
  cases h : keptP p s (k + 1) <;> simp [h]
noncomputable def faultL (p : PlanD) (s : StateD) : List Int := if planE p = .none then faultK p s 17 else [0]
theorem faults_spec {X : Ctx} (hS : Sent X) (p : PlanD) (hp : p.Small) (s : StateD) (hs : s.WF) : ACalc X 72 [encPlan p, encState s] (.fsl ((faultL p s).map encInt)) := by
  intro H
  refine acalls' (N := 25) (rs := [.tmp 4]) [23] (by rw [hS.P]; exact Tryz.func72) rfl rfl rfl (by decide) (by simp) ?_
  have f1 : H.get (H.nx + 1) = .free := AH.free_add H 1
  have hk00 : ∀ i, H.get i ≠ .free → ((H.put H.nx (.row [encPlan p] 7 0)).put (H.nx + 1) (.row [encState s] 10 0)).get i = H.get i := put_keeps f1 (put_keeps (by simp) (keeps_refl H))
  simp [entryR, hS.P]
  refine (rgood_spec hS p hp).go ?_
  by_cases he : planE p = .none
  rotate_left
  · simp [hS.P, he]
    refine Leave.le (v' := .fsl [.int .i64 0]) (Le.csl _) ?_
    exact Leave.data hk00 (by simp) ⟨by simp [faultL, he, encInt], rfl⟩
  simp [hS.P, he]
  generalize hK : (AH.put _ (H.nx + 1) _) = K0
  have g0 : K0.get H.nx = .row [encPlan p] 7 0 := by rw [← hK]; simp
  have g1 : K0.get (H.nx + 1) = .row [encState s] 10 0 := by rw [← hK]; simp
  have hk0 : ∀ i, H.get i ≠ .free → K0.get i = H.get i := by rw [← hK]; exact hk00
  have m1 := AH.lt_nx (AH.ne_free g1)
  have n0 : ¬ H.nx = K0.nx := by omega
  have n1 : ¬ H.nx + 1 = K0.nx := by omega
  refine AWp.loop (S := Nat × AH) (fun t => t.1 ≤ 17 ∧ t.2.get H.nx = .row [encPlan p] 7 0 ∧ t.2.get (H.nx + 1) = .row [encState s] 10 0 ∧ t.2.get K0.nx = .row ((faultK p s t.1).map encInt) 1 (faultK p s t.1).length ∧ ∀ i, H.get i ≠ .free → t.2.get i = H.get i)
    (fun t => [(2, .ptr H.nx 0 0 0), (3, .ptr (H.nx + 1) 0 0 0), (5, .sl K0.nx (faultK p s t.1).length 0 (faultK p s t.1).length), (6, .int .i64 ((t.1 : Int) + 1))]) (fun t => t.2) (fun t => 17 - t.1) (0, K0.put K0.nx (.row [] 1 0))
    ⟨Nat.zero_le _, by simp [n0, g0], by simp [n1, g1], by simp [faultK], put_keeps (keepsNx hk0) hk0⟩ ?_ fun t ht => ?_
  · exact Wk.mat (id := K0.nx) 1 (AH.fresh K0) (by simp [Mat, faultK])
  obtain ⟨k, K⟩ := t
  obtain ⟨hn, gp, gs, hg, hk⟩ := ht
  simp only at hn gp gs hg hk
  refine aC_sound (lv := [23]) _ _ _ _ ?_
  simp [hS.P, gp, gs]
  refine aCond_dec (fun hlt => ?_) (fun hge => ?_)
  · have hk17 : k + 1 ≤ 17 := by omega
    have ht := faultK_step p s k
    have hfl := faultK_len p s k
    have hks := kept_spec hS p hp s hs (k + 1) (by omega) hk17
    rw [show ((k + 1 : Nat) : Int) = (k : Int) + 1 by omega] at hks
    have wv : IntKind.i64.wrap ((k : Int) + 1 + 1) = (k : Int) + 1 + 1 := wrap64 (by omega) (by omega)
    simp [hS.P, gp, gs]
    refine hks.go ?_
    cases h : keptP p s (k + 1) with
    | true =>
      simp [hS.P]
      rw [if_pos h, List.append_nil] at ht
      exact ⟨k + 1, K, ⟨by omega, gp, gs, by rw [ht]; exact hg, hk⟩, by omega, Wk.regs (by simp [ht, wv])⟩
    | false =>
      rw [if_neg (by simp [h])] at ht
      simp [hS.P, hg]
      refine aIf_mk (by omega) ?_
      simp [hS.P]
      exact ⟨k + 1, _, ⟨by omega, by simp [n0, gp], by simp [n1, gs], by simp [ht, encInt], put_keeps (keepsNx hk0) hk⟩, by omega, Wk.regs (by simp [ht, wv])⟩
  · obtain rfl : k = 17 := by omega
    simp [hS.P]
    refine Leave.sl hg (by simp) ?_
    exact Leave.data (put_keeps (keepsNx hk0) hk) (by simp [encInt]) ⟨by simp [faultL, he], rfl⟩
/-- The code and the number that `check` gives. -/
noncomputable def restAns (p : PlanD) (s : StateD) : Int × Int := match faultL p s with
  | [] => (0, -1)
  | f :: _ => if f > 17 then (0, -1) else if f = 0 then (8, -1) else (9, f)
end Go.Proofs.YtndoembhbfiokaaGreatDoor.Am
set_option linter.unusedVariables false
set_option linter.unusedSimpArgs false
namespace Go.Proofs.YtndoembhbfiokaaGreatDoor.Am
open Go.RowKit Go.Proofs

def firstFault (l : List Int) (n : Int) : Int × Int := match l with
  | [] => (0, -1)
  | f :: _ => if n < f then (0, -1) else if f = 0 then (8, -1) else (9, f)
theorem faultL_len (p : PlanD) (s : StateD) : (faultL p s).length ≤ 17 := by
  unfold faultL; split
  · exact faultK_len p s 17
  · simp
theorem check11_spec {X : Ctx} (hS : Sent X) (p : PlanD) (hp : p.Small) (s : StateD) (hs : s.WF) (n : Int) : ACalc X 28 [encPlan p, encState s, .int .i64 n] (.tup [.int .i64 (firstFault (faultL p s) n).1, .int .i64 (firstFault (faultL p s) n).2]) := by
  intro H
  refine acalls' (N := 29) (rs := [.tmp 6, .tmp 7]) [] (by rw [hS.P]; exact Tryz.func28) rfl rfl rfl (by decide) (by simp) ?_
  have f1 : H.get (H.nx + 1) = .free := AH.free_add H 1
  have hk0 : ∀ i, H.get i ≠ .free → ((H.put H.nx (.row [encPlan p] 7 0)).put (H.nx + 1) (.row [encState s] 10 0)).get i = H.get i := put_keeps f1 (put_keeps (by simp) (keeps_refl H))
  simp [entryR, hS.P]
  refine (faults_spec hS p hp s hs).go ?_
  have hl := faultL_len p s
  cases hf : faultL p s with
  | nil =>
    simp [hS.P]
    exact Leave.data hk0 (by simp) ⟨rfl, rfl⟩
  | cons f l =>
    rw [hf] at hl
    have hne : ¬ (l.length : Int) + 1 = 0 := by omega
    simp [hS.P, encInt, hne]
    by_cases e1 : n < f
    · simp [hS.P, encInt, hne, e1]
      exact Leave.data hk0 (by simp) ⟨by simp [firstFault, e1], rfl⟩
    simp [hS.P, encInt, hne, e1]
    by_cases e2 : f = 0
    · simp [hS.P, encInt, hne, e1, e2]
      exact Leave.data hk0 (by simp) ⟨by subst e2; simp only [firstFault]; rw [if_neg e1]; rfl, rfl⟩
    · simp [hS.P, encInt, hne, e1, e2]
      rw [aC_draw (hc := by kernel_rfl)]
      simp [hS.P, encInt]
      exact Leave.data hk0 (by simp) ⟨by simp [firstFault, e1, e2], rfl⟩
theorem rest17_spec {X : Ctx} (hS : Sent X) (p : PlanD) (hp : p.Small) (s : StateD) (hs : s.WF) : ACalc X 11 [encPlan p, encState s] (.tup [.int .i64 (firstFault (faultL p s) 17).1, .int .i64 (firstFault (faultL p s) 17).2]) := by
  intro H
  refine acalls' (N := 11) (rs := [.tmp 4, .tmp 5]) [] (by rw [hS.P]; exact Tryz.func11) rfl rfl rfl (by decide) (by simp) ?_
  have f1 : H.get (H.nx + 1) = .free := AH.free_add H 1
  have hk0 : ∀ i, H.get i ≠ .free → ((H.put H.nx (.row [encPlan p] 7 0)).put (H.nx + 1) (.row [encState s] 10 0)).get i = H.get i := put_keeps f1 (put_keeps (by simp) (keeps_refl H))
  simp [entryR, hS.P]
  refine (check11_spec hS p hp s hs 17).go ?_
  simp [hS.P]
  exact Leave.data hk0 (by simp) ⟨rfl, rfl⟩
end Go.Proofs.YtndoembhbfiokaaGreatDoor.Am
set_option linter.unusedVariables false
set_option linter.unusedSimpArgs false
namespace Go.Proofs.YtndoembhbfiokaaGreatDoor.Am
open Go.RowKit Go.Proofs

structure ReadyOK (l : List ProcD) (k : Nat) (r : List Int) : Prop where
  mem : ∀ n ∈ r, 0 ≤ n ∧ n < (k : Int) ∧ ∃ x, l[n.toNat]? = some x ∧ x.auto = true
  dist : ∀ (i j : Nat) (n : Int), j < i → r[i]? = some n → r[j]? ≠ some n
  cnt : (l.take k).countP (fun x => x.auto) = r.length
theorem ready_ok (l : List ProcD) : ∀ k, k ≤ l.length → ReadyOK l k (readyL (l.take k) 0)
  | 0, _ => by
    refine ⟨by simp [readyL], by simp [readyL], by simp [readyL]⟩
  | k + 1, hk => by
    obtain ⟨m, d, c⟩ := ready_ok l k (by omega)
    obtain ⟨x, hx⟩ : ∃ x, l[k]? = some x := ⟨l[k], List.getElem?_eq_getElem (by omega)⟩
    rw [readyL_take hx]
    generalize readyL (l.take k) 0 = r at m d c
    cases ha : x.auto with
    | false =>
      rw [if_neg (by simp), List.append_nil]
      refine ⟨fun n hn => ?_, d, ?_⟩
      · obtain ⟨h1, h2, h3⟩ := m n hn
        exact ⟨h1, by omega, h3⟩
      · rw [countP_take hx, c]; simp [ha]
    | true =>
      rw [if_pos rfl]
      refine ⟨fun n hn => ?_, fun i j n hij hi hj => ?_, ?_⟩
      · rcases List.mem_append.1 hn with hn | hn
        · obtain ⟨h1, h2, h3⟩ := m n hn
          exact ⟨h1, by omega, h3⟩
        · rw [List.mem_singleton.1 hn]
          exact ⟨by omega, by omega, x, by simpa using hx, ha⟩
      · by_cases hir : i < r.length
        · rw [List.getElem?_append_left hir] at hi
          rw [List.getElem?_append_left (by omega)] at hj
          exact d i j n hij hi hj
        · have hl : i < (r ++ [(k : Int)]).length := (List.getElem?_eq_some_iff.1 hi).1
          have hl' : i = r.length := by simp at hl; omega
          subst hl'
          rw [List.getElem?_append_right (Nat.le_refl _)] at hi
          simp at hi
          rw [List.getElem?_append_left hij] at hj
          have := (m n (List.mem_of_getElem? hj)).2.1
          omega
      · rw [countP_take hx, c]; simp [ha]
theorem bootD_wf {p : PlanD} (h : PlanIn p) : (bootD p).WF := by
  have e1 := h.pages; have e2 := h.procs; have e3 := h.ports; have e4 := h.sems; have e5 := h.events
  have er := readyL_len p.procs 0
  refine ⟨fun x hx => ?_, fun x hx => ?_, by simp [bootD]; omega, by simp [bootD]; omega, by simp [bootD], by simp [bootD]; omega, by simp [bootD]; omega, by simp [bootD]; omega, by simp [bootD]; omega, fun x hx => ?_⟩
  · simp only [bootD, List.mem_map] at hx
    obtain ⟨y, _, rfl⟩ := hx
    simp [bootProc]
  · simp only [bootD, List.mem_map] at hx
    obtain ⟨y, hy, rfl⟩ := hx
    have := h.page y hy
    simp [bootPage]; omega
  · rw [List.eq_of_mem_replicate hx]; simp
theorem kept_boot {p : PlanD} (h : PlanIn p) : ∀ k, 1 ≤ k → k ≤ 17 → keptP p (bootD p) k = true := by
  have e1 := h.pages; have e2 := h.procs; have e3 := h.ports; have e4 := h.sems; have e5 := h.events
  have hproc : ∀ f : ProcS → Bool, (∀ x ∈ p.procs, f (bootProc x) = true) → (bootD p).procs.all f = true := fun f hf => by
    simp only [bootD, List.all_map, List.all_eq_true]; intro x hx; exact hf x hx
  have hport : ∀ f : PortS × PortD → Bool, (∀ y ∈ p.ports, f (⟨[], 0⟩, y) = true) → ((bootD p).ports.zip p.ports).all f = true := fun f hf => by
    rw [List.all_eq_true]; rintro ⟨x, y⟩ hxy
    have hx := (List.of_mem_zip hxy).1
    have hy := (List.of_mem_zip hxy).2
    rw [List.eq_of_mem_replicate hx]; exact hf y hy
  intro k h1 h2
  match k, h1, h2 with
  | 1, _, _ => simp [keptP, bootD]
  | 2, _, _ => simp [keptP, bootD]
  | 3, _, _ => simp [keptP, bootD]; omega
  | 4, _, _ =>
    refine hproc _ fun x hx => ?_
    obtain ⟨_, _, _, q4, q5⟩ := h.proc x hx
    cases ha : x.auto <;> simp [r4P, bootProc, ha, q4, q5]
  | 5, _, _ =>
    refine hproc _ fun x hx => ?_
    cases ha : x.auto <;> simp [r5P, bootProc, ha]
  | 6, _, _ =>
    refine hproc _ fun x hx => ?_
    simp [objectP, bootProc]
  | 7, _, _ =>
    obtain ⟨m, d, c⟩ := ready_ok p.procs p.procs.length (Nat.le_refl _)
    rw [List.take_length] at m d c
    show r7P (bootD p) = true
    have hc : (bootD p).procs.countP run7 = (bootD p).ready.length := by
      show (p.procs.map bootProc).countP run7 = (readyL p.procs 0).length
      rw [← c, List.countP_map]
      refine List.countP_congr fun x _ => ?_
      simp [run7, bootProc]
    rw [r7P, Bool.and_eq_true, decide_eq_true_iff, List.all_eq_true]
    refine ⟨fun i hi => ?_, hc⟩
    rw [List.mem_range] at hi
    have hi' : i < (readyL p.procs 0).length := hi
    have hgi : (bootD p).ready[i]? = some ((readyL p.procs 0)[i]) := List.getElem?_eq_getElem hi'
    obtain ⟨q1, q2, x, hx, hxa⟩ := m _ (List.getElem_mem hi')
    rw [g7, hgi]
    generalize hn : (readyL p.procs 0)[i] = n at q1 q2 hx
    have hbx : (bootD p).procs[n.toNat]? = some (bootProc x) := by simp [bootD, hx]
    have hlen : (bootD p).procs.length = p.procs.length := by simp [bootD]
    show (in7 (bootD p) n && (List.range i).all (dup7 (bootD p).ready n)) = true
    rw [Bool.and_eq_true]
    refine ⟨by rw [in7, hbx, hlen]; simp [bootProc, hxa, q1, q2], ?_⟩
    rw [List.all_eq_true]
    intro j hj
    rw [List.mem_range] at hj
    have := d i j n hj (by rw [List.getElem?_eq_getElem hi', hn])
    simp only [dup7]
    show (!decide ((readyL p.procs 0)[j]? = some n)) = true
    simp [this]
  | 8, _, _ => rfl
  | 9, _, _ =>
    show r9P (bootD p) = true
    rw [r9P]
    have : (bootD p).timers = [] := rfl
    rw [this]
    simp only [List.all_nil, Bool.true_and, List.all_eq_true]
    intro i _
    rw [g9]
    cases hx : (bootD p).procs[i]? with
    | none => rfl
    | some x =>
      have := List.mem_of_getElem? hx
      simp only [bootD, List.mem_map] at this
      obtain ⟨y, _, rfl⟩ := this
      simp [bootProc]
  | 10, _, _ =>
    show p.sems.all sem10 = true
    rw [List.all_eq_true]; intro n hn
    have := h.sem n hn
    simp [sem10]; omega
  | 11, _, _ =>
    refine hport _ fun y hy => ?_
    have := isOut_err y (h.port y hy)
    simp [r11P]; omega
  | 12, _, _ => exact hport _ fun y hy => by simp [r12P]
  | 13, _, _ =>
    show ((p.pages.map bootPage).zip p.pages).all r13P = true
    rw [List.all_eq_true]; rintro ⟨x, y⟩ hxy
    obtain ⟨i, hi⟩ := List.mem_iff_getElem?.1 hxy
    rw [List.getElem?_zip_eq_some] at hi
    obtain ⟨hi1, hi2⟩ := hi
    simp [hi2] at hi1
    subst hi1
    simp [r13P, bootPage]
  | 14, _, _ => exact hproc _ fun x hx => by simp [r14P, bootProc]
  | 15, _, _ => exact hproc _ fun x hx => by simp [r15P, bootProc]
  | 16, _, _ => exact hproc _ fun x hx => by simp [r16P, bootProc]
  | 17, _, _ => exact hport _ fun y hy => by simp [r17P]
  | n + 18, _, h => omega
theorem faults_boot {p : PlanD} (he : planE p = .none) : faultL p (bootD p) = [] := by
  rw [faultL, if_pos he, faultK, List.map_eq_nil_iff, List.filter_eq_nil_iff]
  intro i hi
  rw [List.mem_range] at hi
  rw [kept_boot (planIn he) (i + 1) (by omega) (by omega)]; simp
end Go.Proofs.YtndoembhbfiokaaGreatDoor.Am
