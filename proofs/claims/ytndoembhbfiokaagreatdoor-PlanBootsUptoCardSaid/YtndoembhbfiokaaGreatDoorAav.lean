/- The logic and the contracts that the laws stand on, part 22. -/
import Derived.Test.YtndoembhbfiokaaGreatDoorAau
set_option linter.unusedVariables false
set_option linter.unusedSimpArgs false
namespace Go.Proofs.YtndoembhbfiokaaGreatDoor.Am
open Go.RowKit Go.Proofs

theorem ints11_spec {X : Ctx} (hS : Sent X) (a b : List Int) (ha : a.length ≤ 1073741824) (hb : b.length ≤ 1073741824) : ACalc X 71 [.fsl (a.map encInt), .fsl (b.map encInt)] (.bool (decide (a = b))) := by
  intro H
  refine acalls' (N := 26) (rs := [.tmp 4]) [] (by rw [hS.P]; exact Tryz.func71) rfl rfl rfl (by decide) (by simp) ?_
  simp [entryR, hS.P]
  refine aCond_mk (fun hl => ?_) (fun hl => ?_)
  · simp at hl
    simp
    exact Leave.data (keeps_refl _) (by simp) ⟨by simp; rintro rfl; exact hl rfl, rfl⟩
  simp at hl
  have hl : a.length = b.length := by omega
  simp
  refine AWp.loop (S := Nat) (fun n => n ≤ a.length ∧ a.take n = b.take n)
    (fun n => [(0, .fsl (a.map encInt)), (1, .fsl (b.map encInt)), (5, .int .i64 n)]) (fun _ => H) (fun n => a.length - n) 0 ⟨Nat.zero_le _, by simp⟩ (Wk.regs (by simp)) fun n hs => ?_
  obtain ⟨hn, hF⟩ := hs
  refine aC_sound (lv := []) _ _ _ _ ?_
  simp [hS.P]
  refine aCond_dec (fun hlt => ?_) (fun hge => ?_)
  · obtain ⟨x, hx⟩ : ∃ x, a[n]? = some x := ⟨a[n], List.getElem?_eq_getElem hlt⟩
    obtain ⟨y, hy⟩ : ∃ y, b[n]? = some y := ⟨b[n], List.getElem?_eq_getElem (by omega)⟩
    simp [hS.P]
    rw [aC_draw (hc := by kernel_rfl)]
    simp [hS.P, hx, hy, allEq, eqK, encInt]
    by_cases h : x = y
    · subst h
      simp [hS.P]
      refine ⟨n + 1, ⟨hlt, by simp [List.take_add_one, hF, hx, hy]⟩, by omega, Wk.regs (by simp [wrap1 (n := n) (by omega)])⟩
    · have hab : ¬ a = b := fun e => by subst e; rw [hx] at hy; cases hy; exact h rfl
      simp [h]
      exact Leave.data (keeps_refl _) (by simp) ⟨by simp [hab], rfl⟩
  · obtain rfl : n = a.length := by omega
    simp
    exact Leave.data (keeps_refl _) (by simp) ⟨by rw [List.take_length, hl, List.take_length] at hF; simp [hF], rfl⟩
set_option maxRecDepth 8000 in
set_option maxHeartbeats 4000000 in
theorem restSelf_spec {X : Ctx} (hS : Sent X) (s : StateD) (hs : s.WF) : ACalc X 27 [encState s, encState s] (.bool true) := by
  intro H
  refine acalls' (N := 191) (rs := [.tmp 4]) [] (by rw [hS.P]; exact Tryz.func27) rfl rfl rfl (by decide) (by simp) ?_
  have f1 : H.get (H.nx + 1) = .free := AH.free_add H 1
  have hk0 : ∀ i, H.get i ≠ .free → ((H.put H.nx (.row [encState s] 10 0)).put (H.nx + 1) (.row [encState s] 10 0)).get i = H.get i := put_keeps f1 (put_keeps (by simp) (keeps_refl H))
  have h1 := hs.procs; have h2 := hs.timers; have h3 := hs.up; have h4 := hs.ports
  simp [entryR, hS.P]
  refine AWp.loop (S := Nat) (fun k => k ≤ s.procs.length) (fun k => [(2, .ptr H.nx 0 0 0), (3, .ptr (H.nx + 1) 0 0 0), (5, .int .i64 k)]) (fun _ => (H.put H.nx (.row [encState s] 10 0)).put (H.nx + 1) (.row [encState s] 10 0)) (fun k => s.procs.length - k) 0 (Nat.zero_le _) (Wk.regs (by simp)) fun k hk => ?_
  refine aC_sound (lv := []) _ _ _ _ ?_
  simp [hS.P]
  refine aCond_dec (fun hlt => ?_) (fun hge => ?_)
  · obtain ⟨x, hx⟩ : ∃ x, s.procs[k]? = some x := ⟨s.procs[k], List.getElem?_eq_getElem hlt⟩
    obtain ⟨a0, a1, a2, a3, a4, a5, a6, a7, a8, a9, a10, a11, a12, a13, a14, a15, hr⟩ := regs16 (hs.regs x (List.mem_of_getElem? hx))
    simp [hS.P]
    rw [aC_draw (hc := by kernel_rfl)]
    simp [hS.P, hx, hr, encU32, allEq, eqK]
    refine aIf_mk (chkH_reads (by simp)) ?_
    simp [hS.P]
    exact ⟨k + 1, hlt, by omega, Wk.regs (by simp [wrap1 (n := k) (by omega)])⟩
  clear hk hge
  simp [hS.P]
  refine AWp.loop (S := Nat) (fun k => k ≤ s.timers.length) (fun k => [(2, .ptr H.nx 0 0 0), (3, .ptr (H.nx + 1) 0 0 0), (6, .int .i64 k)]) (fun _ => (H.put H.nx (.row [encState s] 10 0)).put (H.nx + 1) (.row [encState s] 10 0)) (fun k => s.timers.length - k) 0 (Nat.zero_le _) (Wk.regs (by simp)) fun k hk => ?_
  refine aC_sound (lv := []) _ _ _ _ ?_
  simp [hS.P]
  refine aCond_dec (fun hlt => ?_) (fun hge => ?_)
  · obtain ⟨x, hx⟩ : ∃ x, s.timers[k]? = some x := ⟨s.timers[k], List.getElem?_eq_getElem hlt⟩
    simp [hS.P]
    rw [aC_draw (hc := by kernel_rfl)]
    simp [hS.P, hx, allEq, eqK]
    refine aIf_mk (chkH_reads (by simp)) ?_
    simp [hS.P]
    exact ⟨k + 1, hlt, by omega, Wk.regs (by simp [wrap1 (n := k) (by omega)])⟩
  clear hk hge
  simp [hS.P]
  refine AWp.loop (S := Nat) (fun k => k ≤ s.up.length) (fun k => [(2, .ptr H.nx 0 0 0), (3, .ptr (H.nx + 1) 0 0 0), (7, .int .i64 k)]) (fun _ => (H.put H.nx (.row [encState s] 10 0)).put (H.nx + 1) (.row [encState s] 10 0)) (fun k => s.up.length - k) 0 (Nat.zero_le _) (Wk.regs (by simp)) fun k hk => ?_
  refine aC_sound (lv := []) _ _ _ _ ?_
  simp [hS.P]
  refine aCond_dec (fun hlt => ?_) (fun hge => ?_)
  · obtain ⟨x, hx⟩ : ∃ x, s.up[k]? = some x := ⟨s.up[k], List.getElem?_eq_getElem hlt⟩
    simp [hS.P]
    rw [aC_draw (hc := by kernel_rfl)]
    simp [hS.P, hx, allEq, eqK]
    refine aIf_mk (chkH_reads (by simp)) ?_
    simp [hS.P]
    exact ⟨k + 1, hlt, by omega, Wk.regs (by simp [wrap1 (n := k) (by omega)])⟩
  clear hk hge
  simp [hS.P]
  refine AWp.loop (S := Nat) (fun k => k ≤ s.ports.length) (fun k => [(2, .ptr H.nx 0 0 0), (3, .ptr (H.nx + 1) 0 0 0), (8, .int .i64 k)]) (fun _ => (H.put H.nx (.row [encState s] 10 0)).put (H.nx + 1) (.row [encState s] 10 0)) (fun k => s.ports.length - k) 0 (Nat.zero_le _) (Wk.regs (by simp)) fun k hk => ?_
  refine aC_sound (lv := []) _ _ _ _ ?_
  simp [hS.P]
  refine aCond_dec (fun hlt => ?_) (fun hge => ?_)
  · obtain ⟨x, hx⟩ : ∃ x, s.ports[k]? = some x := ⟨s.ports[k], List.getElem?_eq_getElem hlt⟩
    have hml := hs.msgs x (List.mem_of_getElem? hx)
    simp [hS.P]
    rw [aC_draw (hc := by kernel_rfl)]
    simp [hS.P, hx]
    refine aIf_mk (chkH_reads (by simp)) ?_
    simp [hS.P]
    refine AWp.loop (S := Nat) (fun j => j ≤ x.msgs.length) (fun j => [(2, .ptr H.nx 0 0 0), (3, .ptr (H.nx + 1) 0 0 0), (8, .int .i64 k), (9, .int .i64 j)]) (fun _ => (H.put H.nx (.row [encState s] 10 0)).put (H.nx + 1) (.row [encState s] 10 0)) (fun j => x.msgs.length - j) 0 (Nat.zero_le _) (Wk.regs (by simp)) fun j hj => ?_
    refine aC_sound (lv := []) _ _ _ _ ?_
    simp [hS.P, hx]
    refine aCond_dec (fun hjl => ?_) (fun hjg => ?_)
    · obtain ⟨m, hm⟩ : ∃ m, x.msgs[j]? = some m := ⟨x.msgs[j], List.getElem?_eq_getElem hjl⟩
      simp [hS.P]
      rw [aC_draw (hc := by kernel_rfl)]
      simp [hS.P, hx, hm, encStr]
      refine aIf_mk (chkH_reads (by simp)) ?_
      simp [hS.P]
      exact ⟨j + 1, hjl, by omega, Wk.regs (by simp [wrap1 (n := j) (by omega)])⟩
    · simp [hS.P]
      exact ⟨k + 1, hlt, by omega, Wk.regs (by simp [wrap1 (n := k) (by omega)])⟩
  simp [hS.P]
  refine (ints11_spec hS s.ready s.ready hs.ready hs.ready).go ?_
  simp [hS.P]
  refine (ints11_spec hS s.sems s.sems hs.sems hs.sems).go ?_
  simp [hS.P]
  exact Leave.data hk0 (by simp) ⟨rfl, rfl⟩
end Go.Proofs.YtndoembhbfiokaaGreatDoor.Am
set_option linter.unusedVariables false
set_option linter.unusedSimpArgs false
namespace Go.Proofs.YtndoembhbfiokaaGreatDoor.Am
open Go.RowKit Go.Proofs

theorem allEq_bytes : ∀ (n : Nat) (xs : List UInt8), xs.length = n → allEq (List.replicate n .i) (xs.map encB) (xs.map encB) = some true
  | 0, [], _ => rfl
  | n + 1, x :: xs, h => by
    rw [List.replicate_succ, List.map_cons, allEq, allEq_bytes n xs (by simpa using h)]
    simp [encB, eqK]
  | 0, _ :: _, h => by simp at h
  | _ + 1, [], h => by simp at h
set_option maxRecDepth 8000 in
set_option maxHeartbeats 4000000 in
theorem sameSelf_spec {X : Ctx} (hS : Sent X) (s : StateD) (hs : s.WF) : ACalc X 10 [encState s, encState s] (.bool true) := by
  intro H
  refine acalls' (N := 44) (rs := [.tmp 4]) [] (by rw [hS.P]; exact Tryz.func10) rfl rfl rfl (by decide) (by simp) ?_
  have f1 : H.get (H.nx + 1) = .free := AH.free_add H 1
  have hk0 : ∀ i, H.get i ≠ .free → ((H.put H.nx (.row [encState s] 10 0)).put (H.nx + 1) (.row [encState s] 10 0)).get i = H.get i := put_keeps f1 (put_keeps (by simp) (keeps_refl H))
  have h1 := hs.pages
  simp [entryR, hS.P]
  refine (restSelf_spec hS s hs).go ?_
  simp [hS.P]
  refine AWp.loop (S := Nat) (fun k => k ≤ s.pages.length) (fun k => [(2, .ptr H.nx 0 0 0), (3, .ptr (H.nx + 1) 0 0 0), (5, .int .i64 k)]) (fun _ => (H.put H.nx (.row [encState s] 10 0)).put (H.nx + 1) (.row [encState s] 10 0)) (fun k => s.pages.length - k) 0 (Nat.zero_le _) (Wk.regs (by simp)) fun k hk => ?_
  refine aC_sound (lv := []) _ _ _ _ ?_
  simp [hS.P]
  refine aCond_dec (fun hlt => ?_) (fun hge => ?_)
  · obtain ⟨x, hx⟩ : ∃ x, s.pages[k]? = some x := ⟨s.pages[k], List.getElem?_eq_getElem hlt⟩
    have hda := hs.data x (List.mem_of_getElem? hx)
    simp [hS.P]
    rw [aC_draw (hc := by kernel_rfl)]
    simp [hS.P, hx, hda]
    have hpg : allEq (.i :: .b :: List.replicate 64 .i) (.int .i64 x.rights :: .bool x.dirty :: List.take 64 (x.data.map encB)) (.int .i64 x.rights :: .bool x.dirty :: List.take 64 (x.data.map encB)) = some true := by
      rw [← List.map_take, List.take_of_length_le (by omega), allEq, allEq, allEq_bytes 64 x.data hda]
      simp [eqK]
    refine aSome_mk hpg ?_
    simp [hS.P]
    refine aIf_mk (chkH_reads (by simp)) ?_
    simp [hS.P]
    exact ⟨k + 1, hlt, by omega, Wk.regs (by simp [wrap1 (n := k) (by omega)])⟩
  · simp [hS.P]
    exact Leave.data hk0 (by simp) ⟨rfl, rfl⟩
end Go.Proofs.YtndoembhbfiokaaGreatDoor.Am
set_option linter.unusedVariables false
set_option linter.unusedSimpArgs false
namespace Go.Proofs.YtndoembhbfiokaaGreatDoor.Am
open Go.RowKit Go.Proofs

theorem zeroD_wf : zeroD.WF := ⟨by simp [zeroD], by simp [zeroD], by simp [zeroD], by simp [zeroD], by simp [zeroD], by simp [zeroD], by simp [zeroD], by simp [zeroD], by simp [zeroD], by simp [zeroD]⟩
theorem planBoots_spec {X : Ctx} (hS : Sent X) (x : CaseD10) (hx : x.Small) : ACalc X 3 [encCase10 x] (.bool true) := by
  intro H
  refine acalls' (N := 47) (rs := [.tmp 2]) [] (by rw [hS.P]; exact Tryz.func3) rfl rfl rfl (by decide) (by simp) ?_
  have f1 : H.get (H.nx + 1) = .free := AH.free_add H 1
  simp [entryR, hS.P]
  refine (fixed10_spec hS).go ?_
  simp [hS.P]
  refine (planCopy_spec hS x.p hx.p).go ?_
  simp [hS.P]
  refine (planBoot_spec hS x.p hx.p).go ?_
  by_cases he : planE x.p = .none
  · have hin := planIn he
    have hwf := bootD_wf hin
    simp [hS.P, bootAns, planErr, he, encErr]
    refine (rgood_spec hS x.p hx.p).go ?_
    simp [hS.P, he]
    refine (rest17_spec hS x.p hx.p (bootD x.p) hwf).go ?_
    simp [hS.P, faults_boot he, firstFault]
    rw [aC_draw (hc := by kernel_rfl)]
    simp [hS.P]
    refine (rBoot_spec hS x.p hx.p he).call ?_
    simp [hS.P]
    refine (sameSelf_spec hS (bootD x.p) hwf).call ?_
    simp [hS.P]
    refine aIf_mk (chkH_reads (by simp)) ?_
    simp [hS.P]
    exact Leave.data (by repeat (first | exact keeps_refl H | refine put_keeps (by first | exact f1 | exact AH.fresh H) ?_)) (by simp) ⟨rfl, rfl⟩
  · obtain ⟨T, v, hT⟩ := encErr_iface (e := .bare 8) (by simp)
    simp [hS.P, bootAns, planErr, he]
    refine (rgood_spec hS x.p hx.p).go ?_
    simp [hS.P, he]
    refine (same10_spec hS (.bare 8) (by simp [PE.Ok]) 8).go ?_
    simp [hS.P, PE.code, PE.place, show codeG 8 = 8 from rfl]
    refine ACalls.le [encState zeroD, encState zeroD] ⟨Le.refl _, Le.aggL ⟨Le.refl _, Le.refl _, Le.refl _, Le.csl _, Le.csl _, Le.csl _, Le.csl _, Le.csl _, Le.csl _, Le.csl _, trivial⟩, trivial⟩ ?_
    refine (sameSelf_spec hS zeroD zeroD_wf _).mono ?_
    rintro _ _ ⟨rfl, rfl⟩
    simp [hS.P]
    exact Leave.data (by repeat (first | exact keeps_refl H | refine put_keeps (by first | exact f1 | exact AH.fresh H) ?_)) (by simp) ⟨rfl, rfl⟩
end Go.Proofs.YtndoembhbfiokaaGreatDoor.Am
