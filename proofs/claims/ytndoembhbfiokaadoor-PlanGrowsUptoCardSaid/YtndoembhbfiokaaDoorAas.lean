/- The logic and the contracts that the laws stand on, part 19. -/
import Derived.Test.YtndoembhbfiokaaDoorAar
set_option linter.unusedVariables false
set_option linter.unusedSimpArgs false
namespace Go.Proofs.YtndoembhbfiokaaDoor.Am
open Go.RowKit Go.Proofs

theorem wrapu64_mod (n : Int) : IntKind.u64.wrap n = n % 18446744073709551616 := by
  simp [IntKind.wrap, IntKind.bits, IntKind.signed]
/-- The place that a number names in a list. -/
def pickAt (k : Int) (n : Nat) : Nat := ((k % 18446744073709551616) % (n : Int)).toNat
theorem pickAt_lt {k : Int} {n : Nat} (h : 0 < n) : pickAt k n < n := by
  have h1 := Int.emod_nonneg (k % 18446744073709551616) (show (n : Int) ≠ 0 by omega)
  have h2 := Int.emod_lt_of_pos (k % 18446744073709551616) (show (0 : Int) < n by omega)
  unfold pickAt; omega
theorem conf_one {c : ConfD} (h : confE c = .none) {l : LinkD} (hl : l ∈ c.links) : confE { c with links := [l] } = .none := by
  obtain ⟨h1, h2⟩ := or_none h
  obtain ⟨h3, h4⟩ := or_none h2
  have e1 : headE { c with links := [l] } = headE c := rfl
  have e2 : windowsE { c with links := [l] } = windowsE c := by
    have : ∀ (ws : List WinD) (i : Nat) (e : Int), winsE { c with links := [l] } ws i e = winsE c ws i e := fun ws => by
      induction ws with
      | nil => intro i e; rfl
      | cons w ws ih => intro i e; simp only [winsE, ih]
    unfold windowsE
    rw [this]; rfl
  have e3 : linksE { c with links := [l] } = .none := by
    unfold linksE at h4 ⊢
    split at h4
    · cases h4
    · obtain ⟨h5, h6⟩ := or_none h4
      have hb := firstBad_all _ _ h5 l hl
      rw [if_neg (by simp)]
      have hb' : linkBad { c with links := [l] } l = 0 := hb
      have hm : mobE { c with links := [l] } = .none := h6
      simp [firstBad, hb', hm, PE.or]
  rw [confE, e1, e2, e3, h1, h3]; rfl
theorem carr_take {l : LinkD} {ms : List MsgD} {k : Nat} {m : MsgD} (h : ms[k]? = some m) : carr l (ms.take (k + 1)) = carr l (ms.take k) ++ (if m.port = l.out then [⟨l.inn, m.data⟩] else []) := by
  simp only [carr, List.take_add_one, h, Option.toList_some, List.filter_append, List.map_append]
  by_cases hp : m.port = l.out <;> simp [hp]
theorem carr_at {l : LinkD} {ms : List MsgD} {k : Nat} {m : MsgD} (h : ms[k]? = some m) (hp : m.port = l.out) : (carr l ms)[(carr l (ms.take k)).length]? = some ⟨l.inn, m.data⟩ := by
  have : carr l ms = carr l (ms.take k) ++ ([⟨l.inn, m.data⟩] ++ carr l (ms.drop (k + 1))) := by
    have h1 := carr_drop (l := l) h
    rw [if_pos hp] at h1
    rw [← h1]
    simp only [carr, ← List.map_append, ← List.filter_append, List.take_append_drop]
  rw [this]; simp
@[simp] theorem encConf_splice4 (c : ConfD) (zs : List AV) : (encConf c).splice 4 (.csl zs) = .agg [.int .i64 c.ticks, .fsl (c.parts.map encPlan), .fsl (c.homes.map encInt), .fsl (c.windows.map encWin), .csl zs, .int .i64 c.tries] := rfl
theorem frameLinks_spec {X : Ctx} (hS : Sent X) (x : CaseD) (hx : x.Small) (k : Int) : ACalc X 4 [encCase x, encInt k] (.bool true) := by
  intro H
  refine acalls' (N := 181) (rs := [.tmp 4]) [] (by rw [hS.P]; exact Tryd.func4) rfl rfl rfl (by decide) (by simp) ?_
  have f1 : H.get (H.nx + 1) = .free := AH.free_add H 1
  have f2 : H.get (H.nx + 2) = .free := AH.free_add H 2
  simp [entryR, hS.P, encInt]
  refine (fixed14_spec hS).go ?_
  simp [hS.P]
  refine (confCopy_spec hS x.c hx.c).go ?_
  simp [hS.P]
  have hlc := hx.c.links
  have hpc := hx.c.parts
  have fin : ∀ {K : AH}, (∀ i, H.get i ≠ .free → K.get i = H.get i) → Leave X H (.bool true) K fun v' H' => v' = .bool true ∧ H' = H := fun hk => Leave.data hk (by simp) ⟨rfl, rfl⟩
  have hk0 : ∀ i, H.get i ≠ .free → (((H.put H.nx (.row [encCase x] 15 0)).put (H.nx + 1) (.row [encConf x.c] 6 0)).get i = H.get i) := put_keeps f1 (put_keeps (by simp) (keeps_refl H))
  refine aGuard_decf (fun hl0 => ?_) (fun hl0 => ?_)
  · simp [hl0, hS.P]
    exact fin (put_keeps f1 (put_keeps (by simp) (keeps_refl H)))
  simp [hl0, hS.P]
  refine (rconfGood_spec hS x.c hx.c).go ?_
  by_cases he : confE x.c = .none
  rotate_left
  · simp [he, hl0, hS.P]
    exact fin hk0
  simp [he, hl0, hS.P]
  by_cases h1 : x.emitted.length = x.c.parts.length
  rotate_left
  · have h1' : ¬ (x.emitted.length : Int) = x.c.parts.length := by omega
    simp [h1', he, hl0, hS.P, encEm]
    exact fin hk0
  simp [h1, he, hl0, hS.P, encEm]
  by_cases h2 : x.here.length = x.c.parts.length
  rotate_left
  · have h2' : ¬ (x.here.length : Int) = x.c.parts.length := by omega
    simp [h2', h1, he, hl0, hS.P, encEm, encBools]
    exact fin hk0
  simp [h2, h1, he, hl0, hS.P, encEm, encBools]
  have hlp : 0 < x.c.links.length := List.length_pos_iff.2 hl0
  have w1 : IntKind.u64.wrap (x.c.links.length : Int) = x.c.links.length := wrapu64 (by omega) (by omega)
  have hne0 : ¬ (x.c.links.length : Int) = 0 := by omega
  have hj := pickAt_lt (k := k) hlp
  have w2 : IntKind.i64.wrap ((IntKind.u64.wrap k).tmod (x.c.links.length : Int)) = (pickAt k x.c.links.length : Nat) := by
    have h0 : 0 ≤ k % 18446744073709551616 := Int.emod_nonneg _ (by omega)
    have h1 := Int.emod_nonneg (k % 18446744073709551616) hne0
    rw [wrapu64_mod, Int.tmod_eq_emod_of_nonneg h0]
    have : ((pickAt k x.c.links.length : Nat) : Int) = k % 18446744073709551616 % (x.c.links.length : Int) := by unfold pickAt; omega
    rw [this]
    exact wrap64 (by omega) (by rw [← this]; omega)
  generalize hjj : pickAt k x.c.links.length = j at hj w2
  obtain ⟨l, hl⟩ : ∃ l, x.c.links[j]? = some l := ⟨x.c.links[j], List.getElem?_eq_getElem hj⟩
  generalize hK : (AH.put _ (H.nx + 1) _) = K
  have g0 : K.get H.nx = .row [encCase x] 15 0 := by rw [← hK]; simp
  have g1 : K.get (H.nx + 1) = .row [encConf x.c] 6 0 := by rw [← hK]; simp; rfl
  have hk : ∀ i, H.get i ≠ .free → K.get i = H.get i := by rw [← hK]; exact hk0
  have n0 : ¬ H.nx = K.nx := fun h => by have := AH.lt_nx (AH.ne_free g0); omega
  have n1 : ¬ H.nx + 1 = K.nx := fun h => by have := AH.lt_nx (AH.ne_free g1); omega
  rw [aC_draw (hc := by kernel_rfl)]
  simp [hS.P, w1, w2, hne0, hl, g0, g1, n0, n1]
  refine aIf_mk hl0 ?_
  simp [hS.P, w1, w2, hne0, hl, g0, g1, n0, n1]
  refine aIf_mk ?_ ?_
  · have n1' : ¬ K.nx = H.nx + 1 := fun h => n1 h.symm
    simp [chkH, hK, n1, n1']
    exact (show reach _ 4 13 12 = true from by kernel_rfl)
  simp [hS.P, g0, g1, n0, n1]
  have hlm := List.mem_of_getElem? hl
  obtain ⟨hls, hld, hln⟩ := (conf_links he).2 l hlm
  obtain ⟨a, ha⟩ := Int.eq_ofNat_of_zero_le hls.1
  obtain ⟨d, hd⟩ := Int.eq_ofNat_of_zero_le hld.1
  have hal : a < x.c.parts.length := by have := hls.2; omega
  have hdl : d < x.c.parts.length := by have := hld.2; omega
  obtain ⟨va, hva⟩ : ∃ v, x.here[a]? = some v := ⟨x.here[a], List.getElem?_eq_getElem (by omega)⟩
  obtain ⟨vd, hvd⟩ : ∃ v, x.here[d]? = some v := ⟨x.here[d], List.getElem?_eq_getElem (by omega)⟩
  obtain ⟨ms, hms⟩ : ∃ v, x.emitted[a]? = some v := ⟨x.emitted[a], List.getElem?_eq_getElem (by omega)⟩
  have hml := hx.carry.h3 ms (List.mem_of_getElem? hms)
  have hlm : linkMsgs x.here x.emitted l = if va = true ∧ vd = true then carr l ms else [] := by
    have hsn : l.src.toNat = a := by omega
    have hdn : l.dst.toNat = d := by omega
    simp only [linkMsgs, hsn, hdn, hva, hvd, hms, Option.some.injEq, Option.getD_some]; rfl
  generalize hc' : ({ x.c with links := [l] } : ConfD) = c'
  have hs' : c'.Small := by rw [← hc']; exact ⟨hx.c.parts, hx.c.part, hx.c.homes, hx.c.windows, by simp⟩
  have hok : confE c' = .none := by rw [← hc']; exact conf_one he (List.mem_of_getElem? hl)
  have hE : carryErr c' x.here x.emitted = .none := by
    simp only [carryErr]; rw [if_neg (by simp [hok]), if_neg (by rw [← hc']; simp; omega)]
  have hA : carryAns c' x.here x.emitted = addAt (List.replicate x.c.parts.length []) d (linkMsgs x.here x.emitted l) := by
    simp only [carryAns]; rw [if_pos hE, ← hc']
    have hdn : l.dst.toNat = d := by omega
    simp [carryOut, carryGo, hdn]
  refine ACalls.le [encConf c', encBools x.here, encEm x.emitted] ⟨by rw [← hc']; exact Le.aggL ⟨Le.refl _, Le.refl _, Le.refl _, Le.refl _, Le.csl _, Le.refl _, trivial⟩, Le.refl _, Le.refl _, trivial⟩ ?_
  refine (carry_spec hS c' hs' x.here x.emitted ⟨hx.carry.h1, hx.carry.h2, hx.carry.h3⟩).go ?_
  generalize hres : (if va = true ∧ vd = true then carr l ms else []) = res at hlm
  rw [hlm] at hA
  rw [hA, hE]
  have hrep : (List.replicate x.c.parts.length ([] : List MsgD))[d]? = some [] := by simp [List.getElem?_replicate, hdl]
  have hod : (addAt (List.replicate x.c.parts.length []) d res)[d]? = some res := by rw [addAt_set hrep]; simp [hdl]
  have hoo : ∀ i, i < x.c.parts.length → i ≠ d → (addAt (List.replicate x.c.parts.length []) d res)[i]? = some [] := fun i hi hid => by rw [addAt_set hrep]; simp [List.getElem?_set, Ne.symm hid, List.getElem?_replicate, hi]
  have hol : (addAt (List.replicate x.c.parts.length []) d res).length = x.c.parts.length := by simp [addAt]
  generalize addAt (List.replicate x.c.parts.length []) d res = out at hod hoo hol
  simp [hS.P, encErr, hol, n1, g0]
  generalize hK2 : (AH.put _ (H.nx + 1) _) = K2
  have q0 : K2.get H.nx = .row [encCase x] 15 0 := by rw [← hK2]; simp [n0, g0]
  have qq : K2.get K.nx = .row [.agg [.int .i64 (a : Int), .int .i64 l.out, .int .i64 (d : Int), .int .i64 l.inn]] 4 0 := by
    have n1' : ¬ K.nx = H.nx + 1 := fun h => n1 h.symm
    rw [← hK2]; simp [n1', ha, hd]
  have qk : ∀ i, H.get i ≠ .free → K2.get i = H.get i := by rw [← hK2]; exact put_keeps f1 (put_keeps (keepsNx hk) hk)
  generalize K.nx = q at qq n0 n1
  clear hK2 hK g0 g1 hk
  let fl : List MsgD → List MsgD := fun y => if va = true ∧ vd = true then carr l y else []
  have hfl : fl ms = res := hres
  refine AWp.loop (S := Nat × AH) (fun s => s.1 ≤ ms.length ∧ s.2.get H.nx = .row [encCase x] 15 0 ∧ s.2.get q = .row [.agg [.int .i64 (a : Int), .int .i64 l.out, .int .i64 (d : Int), .int .i64 l.inn]] 4 0 ∧ ∀ i, H.get i ≠ .free → s.2.get i = H.get i)
    (fun s => [(2, .ptr H.nx 0 0 0), (6, .ptr q 0 0 0), (7, .fsl (out.map encMsgs)), (9, .int .i64 (fl (ms.take s.1)).length), (10, .int .i64 s.1)]) (fun s => s.2) (fun s => ms.length - s.1) (0, K2)
    ⟨Nat.zero_le _, q0, qq, qk⟩ (Wk.regs (by simp [fl, carr])) fun s hs => ?_
  obtain ⟨n, K⟩ := s
  obtain ⟨hn, h0, hq, hk⟩ := hs
  simp only at hn h0 hq hk
  have m0 : ¬ H.nx = K.nx := fun h => by have := AH.lt_nx (AH.ne_free h0); omega
  have mq : ¬ q = K.nx := fun h => by have := AH.lt_nx (AH.ne_free hq); omega
  refine aC_sound (lv := []) _ _ _ _ ?_
  simp [hS.P, h0, hq, ha, hms, encEm, encMsgs]
  refine aCond_dec (fun hlt => ?_) (fun hge => ?_)
  · obtain ⟨m, hm⟩ : ∃ m, ms[n]? = some m := ⟨ms[n], List.getElem?_eq_getElem hlt⟩
    simp [hS.P, h0, hq, ha, hd, hms, hm, m0, mq, hva, hvd, encEm, encMsgs]
    have hnx : ∀ i, H.get i ≠ .free → (K.put K.nx (.row [.agg [.int .i64 m.port, .str m.data]] 2 0)).get i = H.get i := put_keeps (keepsNx hk) hk
    have skip : ∀ s : Nat × AH, s = (n + 1, K.put K.nx (.row [.agg [.int .i64 m.port, .str m.data]] 2 0)) → s.1 ≤ ms.length ∧ s.2.get H.nx = .row [encCase x] 15 0 ∧ s.2.get q = .row [.agg [.int .i64 (a : Int), .int .i64 l.out, .int .i64 (d : Int), .int .i64 l.inn]] 4 0 ∧ ∀ i, H.get i ≠ .free → s.2.get i = H.get i := by
      rintro s rfl
      exact ⟨hlt, by simp [m0, h0], by simp [mq, hq], hnx⟩
    by_cases hp : m.port = l.out
    rotate_left
    · have e : fl (ms.take (n + 1)) = fl (ms.take n) := by simp only [fl]; rw [carr_take hm, if_neg hp, List.append_nil]
      simp [hS.P, hp]
      exact ⟨n + 1, _, skip _ rfl, by omega, Wk.regs (by simp [wrap1 (n := n) (by omega), e])⟩
    have hpd : decide (m.port = l.out) = true := by simp [hp]
    simp [hS.P, hpd, h0, hq, ha, hd, hva, m0, mq, encBools]
    cases va with
    | false =>
      have e : fl (ms.take (n + 1)) = fl (ms.take n) := by simp [fl]
      simp [hS.P]
      exact ⟨n + 1, _, skip _ rfl, by omega, Wk.regs (by simp [wrap1 (n := n) (by omega), e])⟩
    | true =>
    simp [hS.P, hpd, h0, hq, ha, hd, hvd, m0, mq, encBools]
    cases vd with
    | false =>
      have e : fl (ms.take (n + 1)) = fl (ms.take n) := by simp [fl]
      simp [hS.P]
      exact ⟨n + 1, _, skip _ rfl, by omega, Wk.regs (by simp [wrap1 (n := n) (by omega), e])⟩
    | true =>
    have hcr : res = carr l ms := by rw [← hfl]; simp [fl]
    have hft : fl (ms.take n) = carr l (ms.take n) := by simp [fl]
    have hft1 : fl (ms.take (n + 1)) = carr l (ms.take n) ++ [⟨l.inn, m.data⟩] := by simp only [fl]; rw [if_pos (by simp), carr_take hm, if_pos hp]
    have hat := carr_at hm hp
    rw [← hcr] at hat
    have hcl : (carr l (ms.take n)).length ≤ n := Nat.le_trans (carr_len _ _) (by simp; omega)
    have hlt2 : (carr l (ms.take n)).length < res.length := (List.getElem?_eq_some_iff.1 hat).1
    have hge2 : ¬ res.length ≤ (carr l (ms.take n)).length := by omega
    rw [hft]
    simp [hS.P]
    rw [aC_draw (hc := by kernel_rfl)]
    simp [hS.P, h0, hq, ha, hd, hvd, m0, mq, hod, encMsgs, hge2, hlt2, hat, allEq, eqK]
    refine aIf_mk (chkH_reads (by simp)) ?_
    simp [hS.P]
    have hat' := (List.getElem?_eq_some_iff.1 hat).2
    simp [hS.P, hat']
    exact ⟨n + 1, _, skip _ rfl, by omega, Wk.regs (by simp [wrap1 (n := n) (by omega), wrap1 (n := (carr l (ms.take n)).length) (by omega), hft1])⟩
  · obtain rfl : n = ms.length := by omega
    simp [hS.P]
    have hfr : fl ms = res := hfl
    refine AWp.loop (S := Nat) (fun n => n ≤ out.length) (fun n => [(2, .ptr H.nx 0 0 0), (6, .ptr q 0 0 0), (7, .fsl (out.map encMsgs)), (9, .int .i64 res.length), (12, .int .i64 n)]) (fun _ => K) (fun n => out.length - n) 0
      (Nat.zero_le _) (Wk.regs (by simp [hfr])) fun n hn => ?_
    refine aC_sound (lv := []) _ _ _ _ ?_
    simp [hS.P, h0, hq, hd]
    refine aCond_dec (fun hlt => ?_) (fun hge => ?_)
    · by_cases hnd : n = d
      · subst hnd
        simp [hS.P, h0, hq, hd, hod, encMsgs]
        exact ⟨n + 1, hlt, by omega, Wk.regs (by simp [wrap1 (n := n) (by omega)])⟩
      · have := hoo n (by omega) hnd
        have hnd' : ¬ (n : Int) = d := by omega
        simp [hS.P, h0, hq, hd, hnd', this, encMsgs]
        exact ⟨n + 1, hlt, by omega, Wk.regs (by simp [wrap1 (n := n) (by omega)])⟩
    · simp [hS.P]
      exact fin hk
end Go.Proofs.YtndoembhbfiokaaDoor.Am
