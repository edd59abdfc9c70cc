/- The logic and the contracts that the laws stand on, part 18. -/
import Derived.Test.YtndoembhbfiokaaGreatDoorAaq
set_option linter.unusedVariables false
set_option linter.unusedSimpArgs false
namespace Go.Proofs.YtndoembhbfiokaaGreatDoor.Am
open Go.RowKit Go.Proofs

theorem homesE_ok (c : ConfD) : (homesE c).Ok := by
  unfold homesE; split
  · simp [PE.Ok]
  · exact firstBad_ok (fun a => by unfold homeBad; split <;> omega) _ _
theorem partsE_ok (c : ConfD) : (partsE c).Ok := by
  unfold partsE; split
  · simp [PE.Ok]
  · exact or_ok (firstBadI_ok (fun i a => by unfold partBad; split <;> (try split) <;> omega) _ _) (homesE_ok c)
theorem winsE_ok (c : ConfD) : ∀ (l : List WinD) (i : Nat) (e : Int), (winsE c l i e).Ok
  | [], _, _ => trivial
  | w :: l, i, e => by
    unfold winsE; split
    · simp [PE.Ok]
    · split
      · simp [PE.Ok]
      · split
        · simp [PE.Ok]
        · exact winsE_ok c l _ _
theorem windowsE_ok (c : ConfD) : (windowsE c).Ok := by
  unfold windowsE; split
  · simp [PE.Ok]
  · exact or_ok (winsE_ok c _ _ _) (firstBadI_ok (fun i a => by unfold noWin; split <;> omega) _ _)
theorem rlinksE_ok (c : ConfD) : (rlinksE c).Ok := by
  unfold rlinksE; split
  · simp [PE.Ok]
  · exact firstBad_ok (fun a => by unfold linkBad; (repeat' split) <;> omega) _ _
theorem mobE_ok (c : ConfD) : (mobE c).Ok := by unfold mobE; split <;> simp [PE.Ok]
theorem confE_ok (c : ConfD) : (confE c).Ok := by
  have h1 : (rangeE c).Ok := by unfold rangeE; split <;> simp [PE.Ok]
  rw [confE, headE, linksE_eq]
  exact or_ok (or_ok h1 (partsE_ok c)) (or_ok (windowsE_ok c) (or_ok (rlinksE_ok c) (mobE_ok c)))
def mobInv (c : ConfD) (n : Nat) : Prop := n ≤ c.parts.length ∧ (hasW c (-1) = false → (c.parts.take n).any (·.mobile) = false)
theorem rconfCheck_spec {X : Ctx} (hS : Sent X) (c : ConfD) (hc : c.Small) : ACalc X 76 [encConf c] (encPR (confE c)) := by
  intro H
  refine acalls' (N := 60) (rs := [.cell 2 147]) [] (by rw [hS.P]; exact Tryz.func76) rfl rfl rfl (by decide) (by simp) ?_
  obtain ⟨l1, l2, l3, l4, l5⟩ := id hc
  have f1 : H.get (H.nx + 1) = .free := AH.free_add H 1
  have f2 : H.get (H.nx + 2) = .free := AH.free_add H 2
  have fin : ∀ {K : AH} {v : AV}, (∀ i, H.get i ≠ .free → K.get i = H.get i) → ∀ e : PE, v = encPR e → e = confE c → Leave X H v K fun v' H' => v' = encPR (confE c) ∧ H' = H := fun hk e hv he => by
    subst hv; exact Leave.data hk (by simp) ⟨by rw [he], rfl⟩
  have k1 : ∀ t1 t2, ∀ i, H.get i ≠ .free → ((H.put H.nx t1).put (H.nx + 1) t2).get i = H.get i := fun t1 t2 => put_keeps f1 (put_keeps (by simp) (keeps_refl H))
  have e4 : c.ticks < 1 ∨ 10000 < c.ticks ∨ c.tries < 1 ∨ 64 < c.tries → PE.bare 4 = confE c := fun h => by simp only [confE, headE, rangeE, if_pos h, PE.or]
  have b4 : encR 4 (-1) = encPR (.bare 4) := by rw [encPR_bare]; rfl
  simp [entryR, hS.P]
  refine aGuard_decf (fun h1 => ?_) (fun h1 => ?_)
  · simp [h1, hS.P]
    refine (bad14_spec hS 4).go ?_
    simp [hS.P]
    exact fin (k1 _ _) (.bare 4) b4 (e4 (by omega))
  simp [h1, hS.P]
  refine aGuard_decf (fun h2 => ?_) (fun h2 => ?_)
  · simp [h2, hS.P]
    refine (bad14_spec hS 4).go ?_
    simp [hS.P]
    exact fin (k1 _ _) (.bare 4) b4 (e4 (by omega))
  simp [h2, hS.P]
  refine aGuard_decf (fun h3 => ?_) (fun h3 => ?_)
  · simp [h3, hS.P]
    refine (bad14_spec hS 4).go ?_
    simp [hS.P]
    exact fin (k1 _ _) (.bare 4) b4 (e4 (by omega))
  simp [h3, hS.P]
  refine aCond_dec (fun h4 => ?_) (fun h4 => ?_)
  · simp [hS.P]
    refine (bad14_spec hS 4).go ?_
    simp [hS.P]
    exact fin (k1 _ _) (.bare 4) b4 (e4 (by omega))
  have hr : rangeE c = .none := by simp only [rangeE]; rw [if_neg (by omega)]
  have hcf : confE c = (partsE c).or ((windowsE c).or ((rlinksE c).or (mobE c))) := by rw [confE, headE, linksE_eq, or_right hr]
  simp [hS.P]
  generalize hK : (AH.put _ (H.nx + 1) _) = K
  have g1 : K.get H.nx = .row [encConf c] 6 0 := by rw [← hK]; simp
  have g2 : K.get (H.nx + 1) = .row [.agg [.int .i64 0, .int .i64 0]] 2 0 := by rw [← hK]; simp
  have hk : ∀ i, H.get i ≠ .free → K.get i = H.get i := by rw [← hK]; exact k1 _ _
  have n1 : ¬ H.nx = K.nx := fun h => by have := AH.lt_nx (AH.ne_free g1); omega
  have n2 : ¬ H.nx + 1 = K.nx := fun h => by have := AH.lt_nx (AH.ne_free g2); omega
  refine (rparts_spec hS c hc).go ?_
  by_cases p0 : partsE c = .none
  · simp [hS.P, code_none (partsE_ok c), p0, PE.code, g1, g2, n1, n2]
    refine (rwindows_spec hS c hc (by omega)).go ?_
    by_cases p1 : windowsE c = .none
    · simp [hS.P, code_none (windowsE_ok c), p1, PE.code, g1, g2, n1, n2]
      refine (rlinks_spec hS c hc).go ?_
      by_cases p2 : rlinksE c = .none
      · simp [hS.P, code_none (rlinksE_ok c), p2, PE.code, g1, g2, n1, n2]
        have hm : confE c = mobE c := by rw [hcf, or_right p0, or_right p1, or_right p2]
        generalize hQ : (K.put K.nx _) = Q
        have q1 : Q.get H.nx = .row [encConf c] 6 0 := by rw [← hQ]; simp [n1, g1]
        have q2 : Q.get (H.nx + 1) = .row [.agg [.int .i64 0, .int .i64 0]] 2 0 := by rw [← hQ]; simp [n2, g2]
        have hq : ∀ i, H.get i ≠ .free → Q.get i = H.get i := by rw [← hQ]; exact put_keeps (keepsNx hk) hk
        refine AWp.loop (S := Nat) (mobInv c)
          (fun n => [(1, .ptr H.nx 0 0 0), (2, .ptr (H.nx + 1) 0 0 0), (4, .int .i64 n)]) (fun _ => Q) (fun n => c.parts.length - n) 0 ⟨Nat.zero_le _, by simp⟩ (Wk.regs (by simp)) fun n hs => ?_
        obtain ⟨hn, hF⟩ := hs
        refine aC_sound (lv := []) _ _ _ _ ?_
        simp [hS.P, q1]
        refine aCond_dec (fun hlt => ?_) (fun hge => ?_)
        · obtain ⟨x, hx⟩ : ∃ x, c.parts[n]? = some x := ⟨c.parts[n], List.getElem?_eq_getElem hlt⟩
          have step : (hasW c (-1) = false → x.mobile = false) → (hasW c (-1) = false → (c.parts.take (n + 1)).any (·.mobile) = false) := fun h hw => by
            rw [List.take_add_one, List.any_append, hF hw, hx]; simp [h hw]
          cases hm1 : x.mobile with
          | true =>
            simp [hS.P, q1, hx, hm1]
            refine (rcount_spec hS c hc (-1)).go ?_
            cases hh : hasW c (-1) with
            | true =>
              have hc0 : ¬ cntW c.windows (-1) = 0 := fun h => by rw [(cntW_has c (-1)).1 h] at hh; cases hh
              simp [hS.P, hc0]
              exact ⟨n + 1, (show mobInv c (n + 1) from ⟨hlt, step (fun h => by rw [hh] at h; cases h)⟩), by omega, Wk.regs (by simp [wrap1 (n := n) (by omega)])⟩
            | false =>
              have hc0 : cntW c.windows (-1) = 0 := (cntW_has c (-1)).2 hh
              have ha : c.parts.any (·.mobile) = true := List.any_eq_true.2 ⟨x, List.mem_of_getElem? hx, hm1⟩
              simp [hS.P, hc0]
              refine (bad14_spec hS 17).go ?_
              simp [hS.P, q2]
              exact fin (put_keeps f1 hq) (.bare 17) (by rw [encPR_bare]; rfl) (by rw [hm]; simp only [mobE]; rw [if_pos ⟨ha, hh⟩])
          | false =>
            simp [hS.P, q1, hx, hm1]
            exact ⟨n + 1, (show mobInv c (n + 1) from ⟨hlt, step (fun _ => hm1)⟩), by omega, Wk.regs (by simp [wrap1 (n := n) (by omega)])⟩
        · obtain rfl : n = c.parts.length := by omega
          rw [List.take_length] at hF
          simp
          refine (none14_spec hS).go ?_
          simp [hS.P, q2]
          exact fin (put_keeps f1 hq) .none (by rw [encPR_none]; rfl) (by
            rw [hm]; simp only [mobE]
            rw [if_neg (fun h => by have := hF h.2; rw [h.1] at this; cases this)])
      · simp [hS.P, code_none (rlinksE_ok c), p2, g1, g2, n1, n2]
        exact fin (put_keeps f1 (put_keeps (keepsNx hk) hk)) (rlinksE c) rfl (by rw [hcf, or_right p0, or_right p1, or_left p2])
    · simp [hS.P, code_none (windowsE_ok c), p1, g1, g2, n1, n2]
      exact fin (put_keeps f1 (put_keeps (keepsNx hk) hk)) (windowsE c) rfl (by rw [hcf, or_right p0, or_left p1])
  · simp [hS.P, code_none (partsE_ok c), p0, g1, g2, n1, n2]
    exact fin (put_keeps f1 (put_keeps (keepsNx hk) hk)) (partsE c) rfl (by rw [hcf, or_left p0])
theorem rconfGood_spec {X : Ctx} (hS : Sent X) (c : ConfD) (hc : c.Small) : ACalc X 34 [encConf c] (.bool (decide (confE c = .none))) := by
  intro H
  refine acalls' (N := 7) (rs := [.tmp 2]) [] (by rw [hS.P]; exact Tryz.func34) rfl rfl rfl (by decide) (by simp) ?_
  simp [entryR, hS.P]
  refine (rconfCheck_spec hS c hc).go ?_
  simp [hS.P, encPR, encR]
  exact Leave.data (put_keeps (by simp) (keeps_refl H)) (by simp) (by simp [code_none (confE_ok c)])
end Go.Proofs.YtndoembhbfiokaaGreatDoor.Am
set_option linter.unusedVariables false
set_option linter.unusedSimpArgs false
namespace Go.Proofs.YtndoembhbfiokaaGreatDoor.Am
open Go.RowKit Go.Proofs

@[simp] theorem encPlan_isAgg (p : PlanD) : (encPlan p).isAgg = true := rfl
@[simp] theorem encPlan_splice2 (p : PlanD) : (encPlan p).splice 2 (.fsl (p.pages.map encPage)) = encPlan p := rfl
@[simp] theorem encPlan_splice3 (p : PlanD) : (encPlan p).splice 3 (.fsl (p.procs.map encProc)) = encPlan p := rfl
@[simp] theorem encPlan_splice4 (p : PlanD) : (encPlan p).splice 4 (.fsl (p.ports.map encPort)) = encPlan p := rfl
@[simp] theorem encPlan_splice6 (p : PlanD) : (encPlan p).splice 6 (.fsl (p.sems.map encInt)) = encPlan p := rfl
theorem planCopy_spec {X : Ctx} (hS : Sent X) (p : PlanD) (hp : p.Small) : ACalc X 7 [encPlan p] (encPlan p) := by
  intro H
  refine acalls' (N := 24) (rs := [.cell 2 27]) [] (by rw [hS.P]; exact Tryz.func7) rfl rfl rfl (by decide) (by simp) ?_
  obtain ⟨l1, l2, l3, l4⟩ := id hp
  have f1 : H.get (H.nx + 1) = .free := AH.free_add H 1
  simp [entryR, hS.P]
  refine aIf_mk (by omega) ?_
  simp [hS.P]
  refine aIf_mk (by omega) ?_
  simp [hS.P]
  refine aIf_mk (by omega) ?_
  simp [hS.P]
  refine aIf_mk ⟨fun a _ => by simp [encInt], by omega⟩ ?_
  simp [hS.P]
  exact Leave.data (by repeat (first | exact keeps_refl H | refine put_keeps (by first | exact f1 | simp) ?_)) (encPlan_data p) ⟨rfl, rfl⟩
end Go.Proofs.YtndoembhbfiokaaGreatDoor.Am
set_option linter.unusedVariables false
set_option linter.unusedSimpArgs false
namespace Go.Proofs.YtndoembhbfiokaaGreatDoor.Am
open Go.RowKit Go.Proofs

@[simp] theorem encConf_isAgg (c : ConfD) : (encConf c).isAgg = true := rfl
@[simp] theorem encConf_data (c : ConfD) : (encConf c).Data := by
  simp [encConf, encInt]
theorem confCopy_spec {X : Ctx} (hS : Sent X) (c : ConfD) (hc : c.Small) : ACalc X 16 [encConf c] (encConf c) := by
  intro H
  refine acalls' (N := 39) (rs := [.cell 2 56]) [20] (by rw [hS.P]; exact Tryz.func16) rfl rfl rfl (by decide) (by simp) ?_
  obtain ⟨l1, l2, l3, l4, l5⟩ := id hc
  have f1 : H.get (H.nx + 1) = .free := AH.free_add H 1
  have f2 : H.get (H.nx + 2) = .free := AH.free_add H 2
  simp [entryR, hS.P]
  generalize hK : (AH.put _ (H.nx + 1) _) = K
  have g1 : K.get H.nx = .row [encConf c] 6 0 := by rw [← hK]; simp
  have g2 : K.get (H.nx + 1) = .row [.agg [.int .i64 0, .csl [], .csl [], .csl [], .csl [], .int .i64 0]] 6 0 := by rw [← hK]; simp
  have hk : ∀ i, H.get i ≠ .free → K.get i = H.get i := by rw [← hK]; exact put_keeps f1 (put_keeps (by simp) (keeps_refl H))
  have n1 : ¬ H.nx = K.nx := fun h => by have := AH.lt_nx (AH.ne_free g1); omega
  have n2 : ¬ H.nx + 1 = K.nx := fun h => by have := AH.lt_nx (AH.ne_free g2); omega
  refine AWp.loop (S := Nat) (fun n => n ≤ c.parts.length) (fun n => [(1, .ptr H.nx 0 0 0), (2, .ptr (H.nx + 1) 0 0 0), (3, .sl K.nx n 0 n), (4, .int .i64 n)])
    (fun n => K.put K.nx (.row ((c.parts.take n).map encPlan) 7 n)) (fun n => c.parts.length - n) 0 (Nat.zero_le _) ?_ fun n hn => ?_
  · exact Wk.mat (id := K.nx) 7 (AH.fresh K) (by simp [Mat])
  refine aC_sound (lv := [20]) _ _ _ _ ?_
  simp [hS.P, g1, n1]
  refine aCond_dec (fun hlt => ?_) (fun hge => ?_)
  · obtain ⟨x, hx⟩ : ∃ x, c.parts[n]? = some x := ⟨c.parts[n], List.getElem?_eq_getElem hlt⟩
    simp [hS.P, g1, n1, hx]
    refine (planCopy_spec hS x (l2 x (List.mem_of_getElem? hx))).go ?_
    simp [hS.P]
    refine aIf_mk ⟨by omega, by omega⟩ ?_
    simp [hS.P]
    refine ⟨n + 1, hlt, by omega, ?_⟩
    have ht : (c.parts.map encPlan).take (n + 1) = (c.parts.map encPlan).take n ++ [encPlan x] := by simp [List.take_add_one, hx]
    rw [ht]
    exact Wk.regs (by simp [wrap1 (n := n) (by omega)])
  · obtain rfl : n = c.parts.length := by omega
    simp [hS.P, g1, n1, encConf]
    refine aIf_mk ⟨fun a _ => by simp [encInt], by omega⟩ ?_
    simp [hS.P, encConf]
    refine aIf_mk (by omega) ?_
    simp [hS.P, encConf]
    refine aIf_mk (by omega) ?_
    simp [hS.P, encConf, g2, n2]
    refine Leave.frz (id := K.nx) (ver := c.parts.length) (sz := 7) (zs := c.parts.map encPlan) (v' := encConf c) (by simp [n1, n2, Ne.symm, List.take_of_length_le]) (.agg _ [.int .i64 c.ticks, .fsl (c.parts.map encPlan), .fsl (c.homes.map encInt), .fsl (c.windows.map encWin), .fsl (c.links.map encLink), .int .i64 c.tries] rfl fun j x y h1 h2 => ?_) ?_
    · rcases j with _ | _ | _ | _ | _ | _ | j <;> simp at h1 h2
      · subst h1 h2; exact .refl _
      · subst h1 h2; exact .all (by simp)
      · subst h1 h2; exact .refl _
      · subst h1 h2; exact .refl _
      · subst h1 h2; exact .refl _
      · subst h1 h2; exact .refl _
    · exact Leave.data (put_keeps (keepsNx hk) (put_keeps f1 (put_keeps (by simp) (put_keeps (keepsNx hk) hk)))) (encConf_data c) ⟨rfl, rfl⟩
end Go.Proofs.YtndoembhbfiokaaGreatDoor.Am
set_option linter.unusedVariables false
set_option linter.unusedSimpArgs false
namespace Go.Proofs.YtndoembhbfiokaaGreatDoor.Am
open Go.RowKit Go.Proofs

theorem same14_spec {X : Ctx} (hS : Sent X) (e : PE) (he : e.Ok) (c : Int) : ACalc X 17 [encErr e, .int .i64 c] (.bool (decide (e.code = c ∧ e.place = -1))) := by
  intro H
  refine acalls' (N := 14) (rs := [.tmp 4]) [] (by rw [hS.P]; exact Tryz.func17) rfl rfl rfl (by decide) (by simp) ?_
  simp [entryR, hS.P]
  refine (code_spec hS e he).go ?_
  by_cases h : e.code = c
  · simp [hS.P, h]
    refine (place_spec hS e).go ?_
    simp [hS.P]
    exact Leave.data (keeps_refl _) (by simp) ⟨by simp [h], rfl⟩
  · simp [hS.P, h]
    exact Leave.data (keeps_refl _) (by simp) ⟨by simp [h], rfl⟩
end Go.Proofs.YtndoembhbfiokaaGreatDoor.Am
/- A row is frozen, and the slices of it that stand in another row are told as data at once. -/
set_option linter.unusedVariables false
set_option linter.unusedSimpArgs false
namespace Go.Proofs.YtndoembhbfiokaaGreatDoor.Am
open Go.RowKit
section
variable {X : Ctx}

theorem WRel.frzRow {μ : Mu} {ρ : Nat → Value} {w0 w : World} {H : AH} (hW : WRel X μ ρ w0 H w) {id veri szi : Nat} {zs : List AV} (hH : H.get id = .row zs szi veri)
    {R ver sz : Nat} {xs xs' : List AV} (hne : R ≠ id) (hR : H.get R = .row xs sz ver) (hl : xs'.length = xs.length)
    (hx : ∀ (j : Nat) (x x' : AV), xs[j]? = some x → xs'[j]? = some x' → x'.cells.length = x.cells.length ∧ ∀ (q : Nat) (c c' : AV), x.cells[q]? = some c → x'.cells[q]? = some c' → Frz id veri zs c c') :
    Ext μ (Live μ H) w μ (Live μ ((H.put id .dead).put R (.row xs' sz ver))) w ∧ WRel X μ ρ w0 ((H.put id .dead).put R (.row xs' sz ver)) w ∧
    ∀ v v', Frz id veri zs v v' → ∀ c, VRel μ ρ (Live μ H) w v c → VRel μ ρ (Live μ ((H.put id .dead).put R (.row xs' sz ver))) w v' c := by
  obtain ⟨x1, W1, h3⟩ := freeze hW hH
  have hR1 : (H.put id .dead).get R = .row xs sz ver := by rw [AH.put_ne _ _ hne, hR]
  have hblk : ∀ i, blk μ i (((H.put id .dead).put R (.row xs' sz ver)).get i) = blk μ i ((H.put id .dead).get i) := fun i => by
    by_cases hi : i = R
    · subst hi; rw [AH.put_same, hR1]; rfl
    · rw [AH.put_ne _ _ hi]
  have hx' : Ext μ (Live μ (H.put id .dead)) w μ (Live μ ((H.put id .dead).put R (.row xs' sz ver))) w :=
    ⟨fun _ _ _ h => h, Nat.le_refl _, fun _ _ _ => rfl, fun _ _ => rfl, fun c ⟨i, hi⟩ => .inl ⟨i, by rw [← hblk i]; exact hi⟩, put_ids (by simp)⟩
  have hs := hW.slot R
  rw [hR] at hs
  refine ⟨x1.trans hx', W1.put R _ hx' W1.below (fun _ _ _ => rfl) (fun _ _ _ _ => rfl) ⟨hs.1, ?_⟩ (fun c hc i hi hc' => ?_), fun v v' hf c hv => (h3 v v' hf c hv).mono hx'⟩
  · rcases hs.2 with ⟨rfl, h⟩ | ⟨b, C, e, fz, h1, h2, h3', h4, h5, h6, h7⟩
    · exact .inl ⟨List.eq_nil_of_length_eq_zero hl, h⟩
    · refine .inr ⟨b, C, e, fz, h1, h2, h3', h4, by rw [hl]; exact h5, fun j hj => ?_, fun j hj q hq => ?_⟩
      · rw [(hx j _ _ (List.getElem?_eq_getElem (by omega)) (List.getElem?_eq_getElem hj)).1]; exact h6 j (by omega)
      · have hxj := hx j _ _ (List.getElem?_eq_getElem (by omega)) (List.getElem?_eq_getElem hj)
        obtain ⟨c, hc, hr⟩ := h7 j (by omega) q (by rw [← hxj.1]; exact hq)
        exact ⟨c, hc, (h3 _ _ (hxj.2 q _ _ (List.getElem?_eq_getElem (by rw [← hxj.1]; exact hq)) (List.getElem?_eq_getElem hq)) c hr).mono hx'⟩
  · have : blk μ R ((H.put id .dead).get R) = some c := by rw [hR1]; exact hc
    exact hi (W1.inj i R c hc' this)

theorem Leave.frzRow {H0 H' : AH} {v v' : AV} {Q : AV → AH → Prop} {id veri szi : Nat} {zs : List AV} (hH : H'.get id = .row zs szi veri)
    {R ver sz : Nat} {xs : List AV} (xs' : List AV) (hne : R ≠ id) (hR : H'.get R = .row xs sz ver) (hl : xs'.length = xs.length)
    (hx : ∀ (j : Nat) (x x' : AV), xs[j]? = some x → xs'[j]? = some x' → x'.cells.length = x.cells.length ∧ ∀ (q : Nat) (c c' : AV), x.cells[q]? = some c → x'.cells[q]? = some c' → Frz id veri zs c c')
    (hf : Frz id veri zs v v') (h : Leave X H0 v' ((H'.put id .dead).put R (.row xs' sz ver)) Q) : Leave X H0 v H' Q :=
  fun μ0 ρ w0 wa μ w c hW0 hx0 hW hv => by
    obtain ⟨h1, h2, h3⟩ := hW.frzRow hH hne hR hl hx
    exact h μ0 ρ w0 wa μ w c hW0 (hx0.trans h1) h2 (h3 _ _ hf _ hv)

/-- A row of slices, each of them a row of its own: all become data. -/
theorem Leave.frzRows {H0 : AH} {v : AV} {Q : AV → AH → Prop} {R verR : Nat} : ∀ (L : List (Nat × Nat × List AV)) (pre : List AV) (H' : AH),
    H'.get R = .row (pre ++ L.map fun x => .sl x.1 x.2.1 0 x.2.2.length) 1 verR → (∀ x ∈ L, x.1 ≠ R ∧ ∃ sz, H'.get x.1 = .row x.2.2 sz x.2.1) → (L.map (·.1)).Nodup →
    (∀ H'' : AH, H''.get R = .row (pre ++ L.map fun x => .fsl x.2.2) 1 verR → (∀ i, i ≠ R → (∀ x ∈ L, x.1 ≠ i) → H''.get i = H'.get i) → Leave X H0 v H'' Q) → Leave X H0 v H' Q
  | [], pre, H', hR, _, _, h => h H' hR fun _ _ _ => rfl
  | x :: L, pre, H', hR, hL, hnd, h => by
    obtain ⟨hxR, sz, hx⟩ := hL x (List.mem_cons_self ..)
    rw [List.map_cons, List.nodup_cons] at hnd
    refine Leave.frzRow hx (pre ++ .fsl x.2.2 :: L.map fun x => .sl x.1 x.2.1 0 x.2.2.length) (Ne.symm hxR) hR (by simp) ?_ (.refl v) ?_
    · intro j y y' hy hy'
      rw [List.map_cons] at hy
      rcases Nat.lt_trichotomy j pre.length with hj | hj | hj
      · rw [List.getElem?_append_left hj] at hy hy'
        rw [hy] at hy'; obtain rfl := Option.some.inj hy'
        exact ⟨rfl, fun q c c' hc hc' => by rw [hc] at hc'; obtain rfl := Option.some.inj hc'; exact .refl _⟩
      · subst hj
        simp at hy hy'
        subst hy hy'
        refine ⟨rfl, fun q c c' hc hc' => ?_⟩
        rcases q with _ | q
        · simp [AV.cells] at hc hc'
          subst hc hc'
          have := Frz.sl (id := x.1) (ver := x.2.1) (zs := x.2.2) 0 x.2.2.length (by simp)
          simpa using this
        · simp [AV.cells] at hc
      · obtain ⟨k, rfl⟩ : ∃ k, j = pre.length + (k + 1) := ⟨j - pre.length - 1, by omega⟩
        rw [List.getElem?_append_right (by omega)] at hy hy'
        simp only [Nat.add_sub_cancel_left, List.getElem?_cons_succ] at hy hy'
        rw [hy] at hy'; obtain rfl := Option.some.inj hy'
        exact ⟨rfl, fun q c c' hc hc' => by rw [hc] at hc'; obtain rfl := Option.some.inj hc'; exact .refl _⟩
    · refine Leave.frzRows (verR := verR) L (pre ++ [.fsl x.2.2]) _ (by rw [AH.put_same]; simp) (fun y hy => ?_) hnd.2 fun H'' h1 h2 => ?_
      · obtain ⟨hyR, sz', hy'⟩ := hL y (List.mem_cons_of_mem _ hy)
        refine ⟨hyR, sz', ?_⟩
        rw [AH.put_ne _ _ hyR, AH.put_ne _ _ (fun e => hnd.1 (by rw [← e]; exact List.mem_map.2 ⟨y, hy, rfl⟩)), hy']
      · refine h H'' (by rw [h1]; simp) fun i hi hn => ?_
        rw [h2 i hi (fun y hy => hn y (List.mem_cons_of_mem _ hy)), AH.put_ne _ _ hi, AH.put_ne _ _ (Ne.symm (hn x (List.mem_cons_self ..)))]

/-- A free identity becomes an empty row. -/
theorem Wk.void {N : Nat} {r : Regs} {H : AH} (sz : Nat) : Wk X N r H r (H.put H.nx (.row [] sz 0)) := fun μ ρ w0 a w hR => by
  have hs := hR.world.slot H.nx
  rw [AH.fresh] at hs
  obtain ⟨hx, hW⟩ := voidRow hR.world (id := H.nx) (ver := 0) (sz := sz) (fun v _ => hs v) (by simp [blk])
  exact ⟨μ, hx, hR.tsize, hR.defers, fun t => (hR.regs t).mono hx, hW⟩
theorem AH.nx_fresh (H : AH) (s : Slot) : (H.put H.nx s).nx = H.nx + 1 := by simp [AH.nx_put]
/-- A row of empty slices: each becomes a row of its own. -/
theorem Wk.rows {R ver : Nat} (szi : Nat) : ∀ (m : Nat) (pre : List AV) (H : AH), H.get R = .row (pre ++ List.replicate m (.csl [])) 1 ver →
    ∃ K : AH, (∀ N r, Wk X N r H r K) ∧ K.get R = .row (pre ++ (List.range m).map fun j => .sl (H.nx + j) 0 0 0) 1 ver ∧ (∀ j, j < m → K.get (H.nx + j) = .row [] szi 0) ∧ ∀ i, i < H.nx → i ≠ R → K.get i = H.get i
  | 0, pre, H, hR => ⟨H, fun _ _ => Wk.refl, by simpa using hR, fun j hj => absurd hj (by omega), fun _ _ _ => rfl⟩
  | m + 1, pre, H, hR => by
    have hlt : R < H.nx := AH.lt_nx (AH.ne_free hR)
    have hR1 : (H.put H.nx (.row [] szi 0)).get R = .row (pre ++ .csl [] :: List.replicate m (.csl [])) 1 ver := by rw [AH.put_ne _ _ (by omega), hR]; rfl
    have hnx : ((H.put H.nx (.row [] szi 0)).put R (.row (pre ++ .sl H.nx 0 0 0 :: List.replicate m (.csl [])) 1 ver)).nx = H.nx + 1 := by
      rw [AH.nx_put, AH.nx_fresh, if_pos (by omega)]
    obtain ⟨K, h1, h2, h3, h4⟩ := Wk.rows (R := R) (ver := ver) szi m (pre ++ [.sl H.nx 0 0 0]) ((H.put H.nx (.row [] szi 0)).put R (.row (pre ++ .sl H.nx 0 0 0 :: List.replicate m (.csl [])) 1 ver)) (by rw [AH.put_same]; simp)
    rw [hnx] at h2 h3 h4
    refine ⟨K, fun N r => (Wk.void szi).trans ((Wk.slot _ hR1 (by simp) ?_).trans (h1 N r)), ?_, fun j hj => ?_, fun i hi hiR => ?_⟩
    · intro j x x' hx hx'
      rcases Nat.lt_trichotomy j pre.length with hj | hj | hj
      · rw [List.getElem?_append_left hj] at hx hx'
        rw [hx] at hx'; obtain rfl := Option.some.inj hx'
        exact ⟨rfl, fun q c c' hc hc' => by rw [hc] at hc'; obtain rfl := Option.some.inj hc'; exact LeH.refl _ _⟩
      · subst hj
        simp at hx hx'
        subst hx hx'
        refine ⟨rfl, fun q c c' hc hc' => ?_⟩
        rcases q with _ | q
        · simp [AV.cells] at hc hc'
          subst hc hc'
          exact LeH.mat (by rw [AH.put_same]; simp)
        · simp [AV.cells] at hc
      · obtain ⟨k, rfl⟩ : ∃ k, j = pre.length + (k + 1) := ⟨j - pre.length - 1, by omega⟩
        rw [List.getElem?_append_right (by omega)] at hx hx'
        simp only [Nat.add_sub_cancel_left, List.getElem?_cons_succ] at hx hx'
        rw [hx] at hx'; obtain rfl := Option.some.inj hx'
        exact ⟨rfl, fun q c c' hc hc' => by rw [hc] at hc'; obtain rfl := Option.some.inj hc'; exact LeH.refl _ _⟩
    · rw [h2, List.range_succ_eq_map]
      simp [Nat.add_assoc, Nat.add_comm 1]
    · rcases j with _ | j
      · rw [h4 _ (by omega) (by omega), AH.put_ne _ _ (by omega), Nat.add_zero, AH.put_same]
      · have := h3 j (by omega)
        rw [show H.nx + (j + 1) = H.nx + 1 + j by omega]; exact this
    · rw [h4 _ (by omega) hiR, AH.put_ne _ _ hiR, AH.put_ne _ _ (by omega)]

/-- Less of each element. -/
def LeR : List AV → List AV → Prop
  | [], [] => True
  | x :: l, y :: m => (x.cells.length = y.cells.length ∧ ∀ (q : Nat) (c c' : AV), x.cells[q]? = some c → y.cells[q]? = some c' → Le c c') ∧ LeR l m
  | _, _ => False
theorem LeR.get : ∀ {l m : List AV}, LeR l m → l.length = m.length ∧ ∀ (j : Nat) (y : AV), m[j]? = some y → ∃ x, l[j]? = some x ∧ x.cells.length = y.cells.length ∧ ∀ (q : Nat) (c c' : AV), x.cells[q]? = some c → y.cells[q]? = some c' → Le c c'
  | [], [], _ => ⟨rfl, fun j y h => by simp at h⟩
  | x :: l, y :: m, h => by
    obtain ⟨h1, h2⟩ := LeR.get h.2
    refine ⟨by simp [h1], fun j z hz => ?_⟩
    rcases j with _ | j
    · simp at hz; subst hz; exact ⟨x, rfl, h.1⟩
    · exact h2 j z (by simpa using hz)
  | [], _ :: _, h => h.elim
  | _ :: _, [], h => h.elim
theorem Le.cslR {xs ys : List AV} (h : LeR xs ys) : Le (.csl xs) (.fsl ys) := by
  obtain ⟨hl, hg⟩ := h.get
  intro μ ρ L w c hc
  cases hc with
  | csl0 a =>
    obtain rfl : ys = [] := List.eq_nil_of_length_eq_zero (by simpa using hl.symm)
    exact .fsl0 a 0
  | csl _ b o sz f hL hb hz hcc hr =>
    rw [hl]
    refine .fsl ys b o sz ys.length f hL hb (Nat.le_refl _) (fun j hj => ?_) (fun j hj q hq => hcc j (by omega) q hq) (fun j hj q hq => ?_)
    · obtain ⟨x, hx, h1, _⟩ := hg j _ (List.getElem?_eq_getElem hj)
      obtain ⟨hj', hx⟩ := List.getElem?_eq_some_iff.1 hx
      subst hx
      rw [← h1]; exact hz j hj'
    · obtain ⟨x, hx, h1, h2⟩ := hg j _ (List.getElem?_eq_getElem hj)
      obtain ⟨hj', hx⟩ := List.getElem?_eq_some_iff.1 hx
      subst hx
      exact h2 q _ _ (List.getElem?_eq_getElem (by omega)) (List.getElem?_eq_getElem hq) _ _ _ _ _ (hr j hj' q (by omega))
/-- Less of each cell. -/
theorem Le.aggL {cs cs' : List AV} (h : LeL cs cs') : Le (.agg cs) (.agg cs') :=
  Le.agg h.get.1 fun j x y hx hy => by
    obtain ⟨x', hx', hl⟩ := h.get.2 j y hy
    rw [hx] at hx'; obtain rfl := Option.some.inj hx'
    exact hl
theorem Le.tupL {cs cs' : List AV} (h : LeL cs cs') : Le (.tup cs) (.tup cs') :=
  Le.tup h.get.1 fun j x y hx hy => by
    obtain ⟨x', hx', hl⟩ := h.get.2 j y hy
    rw [hx] at hx'; obtain rfl := Option.some.inj hx'
    exact hl
theorem LeL.cells {l m : List AV} (h : LeL l m) : l.length = m.length ∧ ∀ (q : Nat) (c c' : AV), l[q]? = some c → m[q]? = some c' → Le c c' :=
  ⟨h.get.1, fun q c c' hc hc' => by
    obtain ⟨x, hx, hl⟩ := h.get.2 q c' hc'
    rw [hc] at hx; obtain rfl := Option.some.inj hx
    exact hl⟩
end
end Go.Proofs.YtndoembhbfiokaaGreatDoor.Am
set_option linter.unusedVariables false
set_option linter.unusedSimpArgs false
namespace Go.Proofs.YtndoembhbfiokaaGreatDoor.Am
open Go.RowKit Go.Proofs

/-- What a configuration in form says of its windows. -/
structure WinOK (c : ConfD) (w : WinD) : Prop where
  part : -1 ≤ w.part ∧ w.part < c.parts.length
  start : 0 ≤ w.start
  len : 1 ≤ w.len
  fits : w.start + w.len ≤ c.ticks
/-- Windows in order, from a tick on. -/
def Asc : List WinD → Int → Prop
  | [], _ => True
  | w :: l, e => e ≤ w.start ∧ Asc l (w.start + w.len)
theorem winsE_good {c : ConfD} : ∀ (l : List WinD) (i : Nat) (e : Int), winsE c l i e = .none → (∀ w ∈ l, WinOK c w) ∧ Asc l e
  | [], _, _, _ => ⟨by simp, trivial⟩
  | w :: l, i, e, h => by
    unfold winsE at h
    split at h
    · cases h
    · split at h
      · cases h
      · split at h
        · cases h
        · obtain ⟨h1, h2⟩ := winsE_good l _ _ h
          refine ⟨fun x hx => ?_, by omega, h2⟩
          rcases List.mem_cons.1 hx with rfl | hx
          · exact ⟨by omega, by omega, by omega, by omega⟩
          · exact h1 x hx
theorem conf_windows {c : ConfD} (h : confE c = .none) : c.windows.length ≤ 32 ∧ (∀ w ∈ c.windows, WinOK c w) ∧ Asc c.windows 0 ∧ 1 ≤ c.ticks ∧ c.ticks ≤ 10000 := by
  obtain ⟨h1, h2⟩ := or_none h
  have hw := (or_none h2).1
  have hr := range_ok h1
  unfold windowsE at hw
  split at hw
  · cases hw
  · have := winsE_good _ _ _ (or_none hw).1
    exact ⟨by omega, this.1, this.2, hr⟩
def sumW (l : List WinD) : Int := (l.map (·.len)).sum
theorem sumW_take {l : List WinD} {n : Nat} {w : WinD} (h : l[n]? = some w) : sumW (l.take (n + 1)) = sumW (l.take n) + w.len := by
  simp [sumW, List.take_add_one, h]
theorem sumW_bound : ∀ (l : List WinD), (∀ w ∈ l, 0 ≤ w.len ∧ w.len ≤ 10000) → 0 ≤ sumW l ∧ sumW l ≤ 10000 * l.length
  | [], _ => by simp [sumW]
  | w :: l, h => by
    have h1 := h w (by simp)
    have h2 := sumW_bound l fun x hx => h x (by simp [hx])
    simp only [sumW, List.map_cons, List.sum_cons, List.length_cons] at h2 ⊢
    omega
theorem sum_spec {X : Ctx} (hS : Sent X) (l : List WinD) (hl : l.length ≤ 1073741824) (hw : ∀ w ∈ l, 0 ≤ w.len ∧ w.len ≤ 10000) : ACalc X 36 [.fsl (l.map encWin)] (.int .i64 (sumW l)) := by
  intro H
  refine acalls' (N := 18) (rs := [.tmp 2]) [] (by rw [hS.P]; exact Tryz.func36) rfl rfl rfl (by decide) (by simp) ?_
  simp [entryR, hS.P]
  refine AWp.loop (S := Nat × AH) (fun s => s.1 ≤ l.length ∧ ∀ i, H.get i ≠ .free → s.2.get i = H.get i)
    (fun s => [(3, .int .i64 (sumW (l.take s.1))), (6, .fsl (l.map encWin)), (7, .int .i64 l.length), (8, .int .i64 s.1)]) (fun s => s.2) (fun s => l.length - s.1) (0, H) ⟨Nat.zero_le _, keeps_refl H⟩ (Wk.regs (by simp [sumW])) fun s hs => ?_
  obtain ⟨n, K⟩ := s
  obtain ⟨hn, hk⟩ := hs
  simp only at hn hk
  refine aC_sound (lv := []) _ _ _ _ ?_
  simp [hS.P]
  refine aCond_dec (fun hlt => ?_) (fun hge => ?_)
  · obtain ⟨x, hx⟩ : ∃ x, l[n]? = some x := ⟨l[n], List.getElem?_eq_getElem hlt⟩
    have b1 := sumW_bound (l.take n) fun w hw' => hw w (List.mem_of_mem_take hw')
    have b2 := hw x (List.mem_of_getElem? hx)
    have b3 : (l.take n).length ≤ n := by simp; omega
    have v1 : IntKind.i64.wrap (sumW (l.take n) + x.len) = sumW (l.take (n + 1)) := by rw [sumW_take hx]; exact wrap64 (by omega) (by omega)
    simp [hS.P, hx]
    exact ⟨n + 1, _, ⟨hlt, put_keeps (keepsNx hk) hk⟩, by omega, Wk.regs (by simp [wrap1 (n := n) (by omega), v1])⟩
  · obtain rfl : n = l.length := by omega
    simp
    exact Leave.data hk (by simp) ⟨by simp, rfl⟩

def winsOf (c : ConfD) (n : Int) : List WinD := c.windows.filter fun w => decide (w.part = n)
/-- Which error a call gets that names an owner. -/
noncomputable def ownErr (c : ConfD) (n : Int) : PE := if confE c ≠ .none then .bare 8 else if -1 ≤ n ∧ n < c.parts.length then .none else .bare 12
noncomputable def winAns (c : ConfD) (n : Int) : List WinD := if ownErr c n = .none then winsOf c n else []
theorem ownErr_none {c : ConfD} {n : Int} (h : ownErr c n = .none) : confE c = .none ∧ -1 ≤ n ∧ n < c.parts.length := by
  unfold ownErr at h
  split at h
  · cases h
  · rename_i hc
    split at h
    · rename_i h2; exact ⟨Classical.byContradiction hc, h2⟩
    · cases h
theorem ownErr_ok (c : ConfD) (n : Int) : (ownErr c n).Ok := by unfold ownErr; split <;> (try split) <;> simp [PE.Ok]
theorem frameWindows_spec {X : Ctx} (hS : Sent X) (c : ConfD) (hc : c.Small) (n : Int) : ACalc X 38 [encConf c, .int .i64 n] (.tup [.fsl ((winAns c n).map encWin), encErr (ownErr c n)]) := by
  intro H
  refine acalls' (N := 35) (rs := [.tmp 4, .tmp 5]) [32] (by rw [hS.P]; exact Tryz.func38) rfl rfl rfl (by decide) (by simp) ?_
  have fin : ∀ {K : AH} (e : PE), (∀ i, H.get i ≠ .free → K.get i = H.get i) → e ≠ .none → ownErr c n = e → Leave X H (.tup [.csl [], encErr e]) K fun v' H' => v' = .tup [.fsl ((winAns c n).map encWin), encErr (ownErr c n)] ∧ H' = H := fun e hk he h => by
    refine Leave.le (v' := .tup [.fsl [], encErr e]) (Le.tup (by simp) (fun j x y h1 h2 => ?_)) ?_
    · rcases j with _ | _ | j <;> simp at h1 h2
      · subst h1 h2; exact Le.csl []
      · subst h1 h2; exact Le.refl _
    · refine Leave.data hk (by simp) ⟨?_, rfl⟩
      rw [h]; simp [winAns, h, he]
  have hk00 : ∀ i, H.get i ≠ .free → (H.put H.nx (.row [encConf c] 6 0)).get i = H.get i := put_keeps (by simp) (keeps_refl H)
  simp [entryR, hS.P]
  refine (frameCheck_spec hS c hc).go ?_
  by_cases he : confE c = .none
  · simp [hS.P, he, encErr]
    refine (owner_spec hS c n).go ?_
    by_cases ho : -1 ≤ n ∧ n < c.parts.length
    · have hE : ownErr c n = .none := by simp only [ownErr]; rw [if_neg (by simp [he]), if_pos ho]
      simp [hS.P, ho]
      generalize hK : (AH.put H H.nx _) = K0
      have g0 : K0.get H.nx = .row [encConf c] 6 0 := by rw [← hK]; simp
      have hk0 : ∀ i, H.get i ≠ .free → K0.get i = H.get i := by rw [← hK]; exact put_keeps (by simp) (keeps_refl H)
      have n0 : ¬ H.nx = K0.nx := fun h => by have := AH.lt_nx (AH.ne_free g0); omega
      refine AWp.loop (S := Nat × AH) (fun s => s.1 ≤ c.windows.length ∧ s.2.get K0.nx = .row (((c.windows.take s.1).filter fun w => decide (w.part = n)).map encWin) 3 (((c.windows.take s.1).filter fun w => decide (w.part = n)).length) ∧ ∀ i, H.get i ≠ .free → s.2.get i = H.get i)
        (fun s => [(1, .int .i64 n), (6, .sl K0.nx (((c.windows.take s.1).filter fun w => decide (w.part = n)).length) 0 (((c.windows.take s.1).filter fun w => decide (w.part = n)).length)), (19, .fsl (c.windows.map encWin)), (20, .int .i64 c.windows.length), (21, .int .i64 s.1)]) (fun s => s.2) (fun s => c.windows.length - s.1) (0, K0.put K0.nx (.row [] 3 0))
        ⟨Nat.zero_le _, by simp, put_keeps (keepsNx hk0) hk0⟩ ?_ fun s hs => ?_
      · exact Wk.mat (id := K0.nx) 3 (AH.fresh K0) (by simp [Mat])
      obtain ⟨k, K⟩ := s
      obtain ⟨hn, hg, hk⟩ := hs
      simp only at hn hk hg
      have hne : ¬ K0.nx = K.nx := fun h => by have := AH.lt_nx (AH.ne_free hg); omega
      refine aC_sound (lv := [32]) _ _ _ _ ?_
      simp [hS.P]
      refine aCond_dec (fun hlt => ?_) (fun hge => ?_)
      · obtain ⟨x, hx⟩ : ∃ x, c.windows[k]? = some x := ⟨c.windows[k], List.getElem?_eq_getElem hlt⟩
        have hl := hc.windows
        have hfl : ((c.windows.take k).filter fun w => decide (w.part = n)).length ≤ k := Nat.le_trans (List.length_filter_le _ _) (by simp; omega)
        have ht : c.windows.take (k + 1) = c.windows.take k ++ [x] := by simp [List.take_add_one, hx]
        simp [hS.P, hx]
        by_cases hp : x.part = n
        · simp [hS.P, hp, hne, hg]
          refine aIf_mk (by omega) ?_
          simp [hS.P]
          refine ⟨k + 1, _, ⟨hlt, by simp [ht, List.filter_append, hp, encWin], put_keeps (keepsNx hk0) (put_keeps (keepsNx hk) hk)⟩, by omega, Wk.regs (by simp [wrap1 (n := k) (by omega), ht, List.filter_append, hp])⟩
        · simp [hS.P, hp]
          refine ⟨k + 1, _, ⟨hlt, by simp [ht, List.filter_append, hp, hne, hg], put_keeps (keepsNx hk) hk⟩, by omega, Wk.regs (by simp [wrap1 (n := k) (by omega), ht, List.filter_append, hp])⟩
      · obtain rfl : k = c.windows.length := by omega
        rw [List.take_length] at hg
        simp [hS.P]
        refine Leave.frz hg (v' := .tup [.fsl ((winAns c n).map encWin), .nili]) (.tup _ _ rfl fun j x y h1 h2 => ?_) ?_
        · rcases j with _ | _ | j <;> simp at h1 h2
          · subst h1 h2
            have : winAns c n = c.windows.filter fun w => decide (w.part = n) := by simp [winAns, hE, winsOf]
            rw [this]
            exact Frz.all (by simp)
          · subst h1 h2; exact .refl _
        · exact Leave.data (put_keeps (keepsNx hk0) hk) (by simp) ⟨by simp [hE, encErr], rfl⟩
    · simp [hS.P, ho]
      rw [aC_draw (hc := by kernel_rfl)]
      simp [hS.P, hS.e12]
      exact fin (.bare 12) hk00 (by simp) (by simp only [ownErr]; rw [if_neg (by simp [he]), if_neg ho])
  · obtain ⟨T, v, hT⟩ := encErr_iface he
    simp [hS.P, hT]
    rw [aC_draw (hc := by kernel_rfl)]
    simp [hS.P, hS.e8]
    exact fin (.bare 8) hk00 (by simp) (by simp only [ownErr]; rw [if_pos he])
end Go.Proofs.YtndoembhbfiokaaGreatDoor.Am
set_option linter.unusedVariables false
set_option linter.unusedSimpArgs false
namespace Go.Proofs.YtndoembhbfiokaaGreatDoor.Am
open Go.RowKit Go.Proofs

theorem winAns_ok {c : ConfD} {n : Int} : ∀ w ∈ winAns c n, WinOK c w ∧ 1 ≤ c.ticks ∧ c.ticks ≤ 10000 := by
  intro w hw
  unfold winAns at hw
  split at hw
  · rename_i h
    have hc := conf_windows (ownErr_none h).1
    exact ⟨hc.2.1 w ((List.mem_filter.1 hw).1), hc.2.2.2⟩
  · cases hw
theorem winAns_len (c : ConfD) (n : Int) : (winAns c n).length ≤ c.windows.length := by
  unfold winAns; split
  · exact List.length_filter_le _ _
  · simp
theorem load_spec {X : Ctx} (hS : Sent X) (c : ConfD) (hc : c.Small) (n : Int) : ACalc X 30 [encConf c, .int .i64 n] (.tup [.int .i64 (sumW (winAns c n)), encErr (ownErr c n)]) := by
  intro H
  refine acalls' (N := 17) (rs := [.tmp 4, .tmp 5]) [] (by rw [hS.P]; exact Tryz.func30) rfl rfl rfl (by decide) (by simp) ?_
  simp [entryR, hS.P]
  refine (frameWindows_spec hS c hc n).go ?_
  simp [hS.P]
  refine (sum_spec hS (winAns c n) (by have := winAns_len c n; have := hc.windows; omega) (fun w hw => by
    obtain ⟨h1, h2, h3⟩ := winAns_ok w hw
    have := h1.start; have := h1.len; have := h1.fits; omega)).go ?_
  simp [hS.P]
  exact Leave.data (put_keeps (by simp) (keeps_refl H)) (by simp) ⟨rfl, rfl⟩

def nextW : List WinD → Int → Option Int
  | [], _ => none
  | w :: l, t => if t < w.start + w.len then some (if t < w.start then w.start else t) else nextW l t
theorem nextW_drop {l : List WinD} {k : Nat} {w : WinD} (h : l[k]? = some w) (t : Int) : nextW (l.drop k) t = if t < w.start + w.len then some (if t < w.start then w.start else t) else nextW (l.drop (k + 1)) t := by
  obtain ⟨hn, he⟩ := List.getElem?_eq_some_iff.1 h
  rw [List.drop_eq_getElem_cons hn, he]; rfl
noncomputable def nextErr (c : ConfD) (n t : Int) : PE :=
  if ownErr c n ≠ .none then ownErr c n else if 0 ≤ t ∧ t < c.ticks then (if (nextW (winsOf c n) t).isSome then .none else .bare 17) else .bare 12
noncomputable def nextAns (c : ConfD) (n t : Int) : Int := if nextErr c n t = .none then (nextW (winsOf c n) t).getD 0 else 0
theorem next_spec {X : Ctx} (hS : Sent X) (c : ConfD) (hc : c.Small) (n t : Int) : ACalc X 32 [encConf c, .int .i64 n, .int .i64 t] (.tup [.int .i64 (nextAns c n t), encErr (nextErr c n t)]) := by
  intro H
  refine acalls' (N := 49) (rs := [.tmp 6, .tmp 7]) [] (by rw [hS.P]; exact Tryz.func32) rfl rfl rfl (by decide) (by simp) ?_
  have fin : ∀ {K : AH} (e : PE) (v : Int), (∀ i, H.get i ≠ .free → K.get i = H.get i) → nextErr c n t = e → nextAns c n t = v → Leave X H (.tup [.int .i64 v, encErr e]) K fun v' H' => v' = .tup [.int .i64 (nextAns c n t), encErr (nextErr c n t)] ∧ H' = H := fun e v hk he hv => by
    subst he hv
    exact Leave.data hk (by simp) ⟨rfl, rfl⟩
  have hk0 : ∀ i, H.get i ≠ .free → (H.put H.nx (.row [encConf c] 6 0)).get i = H.get i := put_keeps (by simp) (keeps_refl H)
  simp [entryR, hS.P]
  refine (frameWindows_spec hS c hc n).go ?_
  by_cases he : ownErr c n = .none
  · have hw := conf_windows (ownErr_none he).1
    have hA : winAns c n = winsOf c n := by simp [winAns, he]
    rw [hA]
    simp [hS.P, he, encErr]
    by_cases ht0 : t < 0
    · simp [hS.P, ht0]
      rw [aC_draw (hc := by kernel_rfl)]
      simp [hS.P, hS.e12]
      have hE : nextErr c n t = .bare 12 := by simp only [nextErr]; rw [if_neg (by simp [he]), if_neg (by omega)]
      exact fin (.bare 12) 0 hk0 hE (by simp [nextAns, hE])
    simp [hS.P, ht0]
    refine aCond_dec (fun ht1 => ?_) (fun ht1 => ?_)
    · simp [hS.P]
      rw [aC_draw (hc := by kernel_rfl)]
      simp [hS.P, hS.e12]
      have hE : nextErr c n t = .bare 12 := by simp only [nextErr]; rw [if_neg (by simp [he]), if_neg (by omega)]
      exact fin (.bare 12) 0 hk0 hE (by simp [nextAns, hE])
    have hE : nextErr c n t = if (nextW (winsOf c n) t).isSome then .none else .bare 17 := by simp only [nextErr]; rw [if_neg (by simp [he]), if_pos (by omega)]
    simp [hS.P]
    refine AWp.loop (S := Nat × AH) (fun s => s.1 ≤ (winsOf c n).length ∧ nextW ((winsOf c n).drop s.1) t = nextW (winsOf c n) t ∧ ∀ i, H.get i ≠ .free → s.2.get i = H.get i)
      (fun s => [(2, .int .i64 t), (30, .fsl ((winsOf c n).map encWin)), (31, .int .i64 (winsOf c n).length), (32, .int .i64 s.1)]) (fun s => s.2) (fun s => (winsOf c n).length - s.1) (0, _) ⟨Nat.zero_le _, by simp, hk0⟩ (Wk.regs (by simp)) fun s hs => ?_
    obtain ⟨k, K⟩ := s
    obtain ⟨hn, hF, hk⟩ := hs
    simp only at hn hk hF
    have hl : (winsOf c n).length ≤ 1073741824 := Nat.le_trans (List.length_filter_le _ _) hc.windows
    refine aC_sound (lv := []) _ _ _ _ ?_
    simp [hS.P]
    refine aCond_dec (fun hlt => ?_) (fun hge => ?_)
    · obtain ⟨x, hx⟩ : ∃ x, (winsOf c n)[k]? = some x := ⟨(winsOf c n)[k], List.getElem?_eq_getElem hlt⟩
      rw [nextW_drop hx] at hF
      have hxo := hw.2.1 x ((List.mem_filter.1 (List.mem_of_getElem? hx)).1)
      have := hxo.start; have := hxo.len; have := hxo.fits
      have v1 : IntKind.i64.wrap (x.start + x.len) = x.start + x.len := wrap64 (by omega) (by omega)
      simp [hS.P, hx, v1]
      refine aCond_dec (fun h1 => ?_) (fun h1 => ?_)
      · rw [if_pos h1] at hF
        simp [hS.P]
        have hE' : nextErr c n t = .none := by rw [hE, ← hF]; rfl
        exact fin .none _ (put_keeps (keepsNx hk) hk) hE' (by simp [nextAns, hE', ← hF])
      · rw [if_neg h1] at hF
        simp [hS.P]
        exact ⟨k + 1, _, ⟨hlt, hF, put_keeps (keepsNx hk) hk⟩, by omega, Wk.regs (by simp [wrap1 (n := k) (by omega)])⟩
    · obtain rfl : k = (winsOf c n).length := by omega
      simp [nextW] at hF
      simp [hS.P]
      rw [aC_draw (hc := by kernel_rfl)]
      simp [hS.P, hS.e17]
      have hE' : nextErr c n t = .bare 17 := by rw [hE, ← hF]; rfl
      exact fin (.bare 17) 0 hk hE' (by simp [nextAns, hE'])
  · obtain ⟨T, v, hT⟩ := encErr_iface he
    simp [hS.P, hT]
    have hE : nextErr c n t = ownErr c n := by simp only [nextErr]; rw [if_pos (by simpa using he)]
    rw [← hT]
    exact fin (ownErr c n) 0 hk0 hE (by simp [nextAns, hE, he])
end Go.Proofs.YtndoembhbfiokaaGreatDoor.Am
set_option linter.unusedVariables false
set_option linter.unusedSimpArgs false
namespace Go.Proofs.YtndoembhbfiokaaGreatDoor.Am
open Go.RowKit Go.Proofs

structure MsgD where
  port : Int
  data : List UInt8
  deriving DecidableEq
def encMsg (m : MsgD) : AV := .agg [.int .i64 m.port, .str m.data]
@[simp] theorem encMsg_data (p : MsgD) : (encMsg p).Data := by simp [encMsg]
@[simp] theorem encMsg_good (p : MsgD) : (encMsg p).good = true := rfl
@[simp] theorem encMsg_cells (m : MsgD) : (encMsg m).cells = [.int .i64 m.port, .str m.data] := rfl
@[simp] theorem encMsg_isAgg (m : MsgD) : (encMsg m).isAgg = true := rfl
end Go.Proofs.YtndoembhbfiokaaGreatDoor.Am
set_option linter.unusedVariables false
set_option linter.unusedSimpArgs false
namespace Go.Proofs.YtndoembhbfiokaaGreatDoor.Am
open Go.RowKit Go.Proofs

def encMsgs (l : List MsgD) : AV := .fsl (l.map encMsg)
@[simp] theorem encMsgs_data (l : List MsgD) : (encMsgs l).Data := by simp [encMsgs]
@[simp] theorem encMsgs_one (l : List MsgD) : (encMsgs l).one = true := rfl
@[simp] theorem encMsgs_good (l : List MsgD) : (encMsgs l).good = true := rfl
@[simp] theorem encMsgs_cells (l : List MsgD) : (encMsgs l).cells = [encMsgs l] := rfl
@[simp] theorem encMsgs_isAgg (l : List MsgD) : (encMsgs l).isAgg = false := rfl
/-- The rows of a carrying that is under way. -/
def outRow (b : Nat) (outs : List (List MsgD)) : List AV := outs.mapIdx fun j l => .sl (b + j) l.length 0 l.length
theorem outRow_len (b : Nat) (outs : List (List MsgD)) : (outRow b outs).length = outs.length := by simp [outRow]
theorem outRow_get {b : Nat} {outs : List (List MsgD)} {j : Nat} {l : List MsgD} (h : outs[j]? = some l) : (outRow b outs)[j]? = some (.sl (b + j) l.length 0 l.length) := by simp [outRow, h]
theorem outRow_set (b : Nat) (outs : List (List MsgD)) (d : Nat) (l : List MsgD) : (outRow b outs).set d (.sl (b + d) l.length 0 l.length) = outRow b (outs.set d l) := by
  apply List.ext_getElem?
  intro j
  simp only [outRow, List.getElem?_set, List.getElem?_mapIdx, List.length_mapIdx]
  by_cases h : d = j
  · subst h
    by_cases h2 : d < outs.length <;> simp [h2]
  · simp [h]
structure CarryH (H K : AH) (R b : Nat) (outs : List (List MsgD)) : Prop where
  row : K.get R = .row (outRow b outs) 1 0
  inner : ∀ j l, outs[j]? = some l → K.get (b + j) = .row (l.map encMsg) 2 l.length
  keep : ∀ i, H.get i ≠ .free → K.get i = H.get i
  lt : R < b
  own : H.get R = .free
  ownI : ∀ j, j < outs.length → H.get (b + j) = .free
theorem CarryH.fresh {H K : AH} {R b : Nat} {outs : List (List MsgD)} (h : CarryH H K R b outs) (s : Slot) : CarryH H (K.put K.nx s) R b outs where
  row := by rw [AH.put_ne _ _ (by have := AH.lt_nx (AH.ne_free h.row); omega)]; exact h.row
  inner := fun j l hl => by
    have := h.inner j l hl
    rw [AH.put_ne _ _ (by have := AH.lt_nx (AH.ne_free this); omega)]; exact this
  keep := put_keeps (keepsNx h.keep) h.keep
  lt := h.lt
  own := h.own
  ownI := h.ownI
theorem CarryH.app {H K : AH} {R b : Nat} {outs : List (List MsgD)} (h : CarryH H K R b outs) {d : Nat} {l : List MsgD} (hl : outs[d]? = some l) (m : MsgD) :
    CarryH H ((K.put (b + d) (.row (l.map encMsg ++ [encMsg m]) 2 (l.length + 1))).put R (.row ((outRow b outs).set d (.sl (b + d) (l.length + 1) 0 (l.length + 1))) 1 0)) R b (outs.set d (l ++ [m])) where
  row := by
    rw [AH.put_same]
    have := outRow_set b outs d (l ++ [m])
    simp only [List.length_append, List.length_singleton] at this
    rw [this]
  inner := fun j l' hl' => by
    have hlt := h.lt
    rw [AH.put_ne _ _ (by omega)]
    rw [List.getElem?_set] at hl'
    split at hl'
    · rename_i e
      subst e
      split at hl'
      · obtain rfl := Option.some.inj hl'
        rw [AH.put_same]; simp
      · cases hl'
    · rename_i e
      rw [AH.put_ne _ _ (by omega)]; exact h.inner j l' hl'
  keep := put_keeps h.own (put_keeps (h.ownI d (List.getElem?_eq_some_iff.1 hl).1) h.keep)
  lt := h.lt
  own := h.own
  ownI := fun j hj => h.ownI j (by simpa using hj)
theorem CarryH.start {X : Ctx} {H K0 : AH} {n : Nat} (hk0 : ∀ i, H.get i ≠ .free → K0.get i = H.get i) {R : Nat} (hR : K0.get R = .row (List.replicate n (.csl [])) 1 0) (hRH : H.get R = .free) {Z : Nat} {s : Slot} (hZ : K0.get Z = s) (hs : s ≠ .free) (hZR : Z ≠ R) (hnx : H.nx ≤ K0.nx) :
    ∃ K : AH, (∀ N r, Wk X N r K0 r K) ∧ CarryH H K R K0.nx (List.replicate n []) ∧ K.get Z = s := by
  obtain ⟨K, h1, h2, h3, h4⟩ := Wk.rows (X := X) 2 n [] K0 hR
  have hlt : R < K0.nx := AH.lt_nx (AH.ne_free hR)
  refine ⟨K, h1, ⟨?_, fun j l hl => ?_, fun i hi => ?_, hlt, hRH, fun j _ => H.wf _ (by omega)⟩, by rw [h4 Z (AH.lt_nx (by rw [hZ]; exact hs)) hZR, hZ]⟩
  · rw [h2]
    have : ([] ++ (List.range n).map fun j => AV.sl (K0.nx + j) 0 0 0) = outRow K0.nx (List.replicate n []) := by
      apply List.ext_getElem?; intro j
      simp [outRow, List.getElem?_range, List.getElem?_replicate]
      by_cases hj : j < n <;> simp [hj]
    rw [this]
  · obtain ⟨hj, rfl⟩ := List.getElem?_eq_some_iff.1 hl
    simp at hj
    simp; exact h3 j hj
  · rw [h4 i (by have := AH.lt_nx hi; omega) (fun e => by subst e; exact hi hRH), hk0 i hi]
/-- All that was carried becomes data. -/
theorem CarryH.leave {X : Ctx} {H K : AH} {R b : Nat} {outs : List (List MsgD)} (h : CarryH H K R b outs) (e : AV) (he : e.Data) {Q : AV → AH → Prop} (hQ : Q (.tup [.fsl (outs.map encMsgs), e]) H) :
    Leave X H (.tup [.sl R 0 0 outs.length, e]) K Q := by
  have hlt := h.lt
  refine Leave.frzRows (R := R) (verR := 0) (outs.mapIdx fun j l => (b + j, l.length, l.map encMsg)) [] K ?_ (fun x hx => ?_) ?_ fun K' h1 h2 => ?_
  · rw [h.row]
    have : outRow b outs = (outs.mapIdx fun j l => (b + j, l.length, l.map encMsg)).map fun x => AV.sl x.1 x.2.1 0 x.2.2.length := by
      apply List.ext_getElem?; intro j
      simp [outRow]
      cases outs[j]? <;> simp
    rw [this]; rfl
  · obtain ⟨j, hj, rfl⟩ := List.mem_mapIdx.1 hx
    exact ⟨by simp; omega, 2, h.inner j _ (List.getElem?_eq_getElem hj)⟩
  · rw [List.nodup_iff_pairwise_ne] 
    have : ((outs.mapIdx fun j l => (b + j, l.length, l.map encMsg)).map (·.1)) = (List.range outs.length).map (b + ·) := by
      apply List.ext_getElem?; intro j
      simp [List.getElem?_range]
      by_cases hj : j < outs.length <;> simp [hj]
    rw [this]
    exact List.Pairwise.map _ (fun x y hxy => by omega) List.pairwise_lt_range
  · refine Leave.frz (id := R) (ver := 0) (sz := 1) (zs := outs.map encMsgs) (v' := .tup [.fsl (outs.map encMsgs), e]) (by
      rw [h1]
      have : ((outs.mapIdx fun j l => (b + j, l.length, l.map encMsg)).map fun x => AV.fsl x.2.2) = outs.map encMsgs := by
        apply List.ext_getElem?; intro j
        simp [encMsgs]
        cases outs[j]? <;> simp [encMsgs]
      rw [this]; rfl) (.tup _ _ rfl fun j x y hx hy => ?_) ?_
    · rcases j with _ | _ | j <;> simp at hx hy
      · subst hx hy; exact Frz.all (by simp)
      · subst hx hy; exact .refl _
    · refine Leave.data (fun i hi => ?_) (by simp [he]) hQ
      have hiR : i ≠ R := fun e => by subst e; exact hi h.own
      rw [AH.put_ne _ _ hiR, h2 i hiR (fun x hx e => ?_), h.keep i hi]
      obtain ⟨j, hj, rfl⟩ := List.mem_mapIdx.1 hx
      simp at e
      exact hi (by rw [← e]; exact h.ownI j hj)

/-- What a link brings. -/
def linkMsgs (here : List Bool) (em : List (List MsgD)) (l : LinkD) : List MsgD :=
  if here[l.src.toNat]? = some true ∧ here[l.dst.toNat]? = some true then (((em[l.src.toNat]?).getD []).filter fun m => decide (m.port = l.out)).map fun m => ⟨l.inn, m.data⟩ else []
def addAt (outs : List (List MsgD)) (d : Nat) (x : List MsgD) : List (List MsgD) := outs.modify d (· ++ x)
def carryGo (here : List Bool) (em : List (List MsgD)) (ls : List LinkD) (outs : List (List MsgD)) : List (List MsgD) := ls.foldl (fun o l => addAt o l.dst.toNat (linkMsgs here em l)) outs
def carryOut (c : ConfD) (here : List Bool) (em : List (List MsgD)) : List (List MsgD) := carryGo here em c.links (List.replicate c.parts.length [])
theorem addAt_nil (outs : List (List MsgD)) (d : Nat) : addAt outs d [] = outs := by
  apply List.ext_getElem?; intro j
  simp only [addAt, List.getElem?_modify]
  by_cases h : d = j <;> simp [h]
theorem addAt_add (outs : List (List MsgD)) (d : Nat) (x y : List MsgD) : addAt (addAt outs d x) d y = addAt outs d (x ++ y) := by
  simp only [addAt]
  apply List.ext_getElem?
  intro j
  simp only [List.getElem?_modify]
  by_cases h : d = j <;> simp [h]
  cases outs[j]? <;> simp
theorem addAt_set {outs : List (List MsgD)} {d : Nat} {l : List MsgD} (h : outs[d]? = some l) (x : List MsgD) : addAt outs d x = outs.set d (l ++ x) := by
  simp only [addAt]
  apply List.ext_getElem?
  intro j
  simp only [List.getElem?_modify, List.getElem?_set]
  obtain ⟨hd, he⟩ := List.getElem?_eq_some_iff.1 h
  by_cases e : d = j
  · subst e; simp [hd, he]
  · simp [e]
theorem carryGo_drop {here : List Bool} {em : List (List MsgD)} {ls : List LinkD} {n : Nat} {l : LinkD} (h : ls[n]? = some l) (outs : List (List MsgD)) :
    carryGo here em (ls.drop n) outs = carryGo here em (ls.drop (n + 1)) (addAt outs l.dst.toNat (linkMsgs here em l)) := by
  obtain ⟨hn, he⟩ := List.getElem?_eq_some_iff.1 h
  rw [List.drop_eq_getElem_cons hn, he]; rfl
end Go.Proofs.YtndoembhbfiokaaGreatDoor.Am
set_option linter.unusedVariables false
set_option linter.unusedSimpArgs false
namespace Go.Proofs.YtndoembhbfiokaaGreatDoor.Am
open Go.RowKit Go.Proofs

/-- What links of a configuration in form say. -/
theorem firstBad_all {A : Type} {f : A → Nat} : ∀ (l : List A) (i : Nat), firstBad f l i = .none → ∀ x ∈ l, f x = 0
  | [], _, _ => by simp
  | a :: l, i, h => by
    unfold firstBad at h
    split at h
    · rename_i h0
      intro x hx
      rcases List.mem_cons.1 hx with rfl | hx
      · exact h0
      · exact firstBad_all l _ h x hx
    · cases h
theorem conf_links {c : ConfD} (h : confE c = .none) : c.links.length ≤ 16 ∧ ∀ l ∈ c.links, inParts c l.src ∧ inParts c l.dst ∧ l.src ≠ l.dst := by
  obtain ⟨h1, h2⟩ := or_none h
  have hl := (or_none h2).2
  unfold linksE at hl
  split at hl
  · cases hl
  · refine ⟨by omega, fun l hm => ?_⟩
    have h0 := firstBad_all _ _ (or_none hl).1 l hm
    unfold linkBad at h0
    split at h0
    · cases h0
    · rename_i hc
      refine ⟨Classical.byContradiction fun h => hc (.inl h), Classical.byContradiction fun h => hc (.inr (.inl h)), fun e => hc (.inr (.inr e))⟩
structure CarryIn (c : ConfD) (here : List Bool) (em : List (List MsgD)) : Prop where
  h1 : here.length ≤ 1073741824
  h2 : em.length ≤ 1073741824
  h3 : ∀ l ∈ em, l.length ≤ 1048576
noncomputable def carryErr (c : ConfD) (here : List Bool) (em : List (List MsgD)) : PE :=
  if confE c ≠ .none then .bare 8 else if here.length ≠ c.parts.length ∨ em.length ≠ c.parts.length then .bare 12 else .none
noncomputable def carryAns (c : ConfD) (here : List Bool) (em : List (List MsgD)) : List (List MsgD) := if carryErr c here em = .none then carryOut c here em else []
def encEm (em : List (List MsgD)) : AV := .fsl (em.map encMsgs)
def encBools (l : List Bool) : AV := .fsl (l.map AV.bool)

/-- One message of a link, or none. -/
def carr (l : LinkD) (ms : List MsgD) : List MsgD := (ms.filter fun m => decide (m.port = l.out)).map fun m => ⟨l.inn, m.data⟩
theorem carr_drop {l : LinkD} {ms : List MsgD} {k : Nat} {m : MsgD} (h : ms[k]? = some m) : carr l (ms.drop k) = (if m.port = l.out then [⟨l.inn, m.data⟩] else []) ++ carr l (ms.drop (k + 1)) := by
  obtain ⟨hn, he⟩ := List.getElem?_eq_some_iff.1 h
  rw [List.drop_eq_getElem_cons hn, he]
  simp only [carr, List.filter_cons]
  by_cases hp : m.port = l.out <;> simp [hp]
/-- Lists that have not grown beyond what the rounds allow. -/
def Grown (outs : List (List MsgD)) (b : Nat) : Prop := ∀ l ∈ outs, l.length ≤ b
theorem Grown.mono {outs : List (List MsgD)} {a b : Nat} (h : Grown outs a) (hab : a ≤ b) : Grown outs b := fun l hl => Nat.le_trans (h l hl) hab
theorem Grown.set {outs : List (List MsgD)} {b d : Nat} {l : List MsgD} (h : Grown outs b) (hl : l.length ≤ b) : Grown (outs.set d l) b := fun x hx => by
  rcases List.mem_or_eq_of_mem_set hx with hx | rfl
  · exact h x hx
  · exact hl

theorem carry_spec {X : Ctx} (hS : Sent X) (c : ConfD) (hc : c.Small) (here : List Bool) (em : List (List MsgD)) (hi : CarryIn c here em) :
    ACalc X 33 [encConf c, encBools here, encEm em] (.tup [.fsl ((carryAns c here em).map encMsgs), encErr (carryErr c here em)]) := by
  intro H
  refine acalls' (N := 91) (rs := [.tmp 6, .tmp 7]) [35] (by rw [hS.P]; exact Tryz.func33) rfl rfl rfl (by decide) (by simp) ?_
  have fin : ∀ {K : AH} (e : PE), (∀ i, H.get i ≠ .free → K.get i = H.get i) → e ≠ .none → carryErr c here em = e → Leave X H (.tup [.csl [], encErr e]) K fun v' H' => v' = .tup [.fsl ((carryAns c here em).map encMsgs), encErr (carryErr c here em)] ∧ H' = H := fun e hk he h => by
    refine Leave.le (v' := .tup [.fsl [], encErr e]) (Le.tupL ⟨Le.csl [], Le.refl _, trivial⟩) ?_
    refine Leave.data hk (by simp) ⟨?_, rfl⟩
    rw [h]; simp [carryAns, h, he]
  have hk0 : ∀ i, H.get i ≠ .free → (H.put H.nx (.row [encConf c] 6 0)).get i = H.get i := put_keeps (by simp) (keeps_refl H)
  simp [entryR, hS.P]
  refine (frameCheck_spec hS c hc).go ?_
  by_cases he : confE c = .none
  rotate_left
  · obtain ⟨T, v, hT⟩ := encErr_iface he
    simp [hS.P, hT]
    rw [aC_draw (hc := by kernel_rfl)]
    simp [hS.P, hS.e8]
    exact fin (.bare 8) hk0 (by simp) (by simp only [carryErr]; rw [if_pos he])
  simp [hS.P, he, encErr, encBools, encEm]
  by_cases h1 : here.length = c.parts.length
  rotate_left
  · have hE : carryErr c here em = .bare 12 := by simp only [carryErr]; rw [if_neg (by simp [he]), if_pos (.inl h1)]
    have h1' : ¬ (here.length : Int) = c.parts.length := by omega
    simp [hS.P, h1']
    rw [aC_draw (hc := by kernel_rfl)]
    simp [hS.P, hS.e12]
    exact fin (.bare 12) hk0 (by simp) hE
  by_cases h2 : em.length = c.parts.length
  rotate_left
  · have hE : carryErr c here em = .bare 12 := by simp only [carryErr]; rw [if_neg (by simp [he]), if_pos (.inr h2)]
    have h2' : ¬ (em.length : Int) = c.parts.length := by omega
    simp [hS.P, h1, h2']
    rw [aC_draw (hc := by kernel_rfl)]
    simp [hS.P, hS.e12]
    exact fin (.bare 12) hk0 (by simp) hE
  have hE : carryErr c here em = .none := by simp only [carryErr]; rw [if_neg (by simp [he]), if_neg (by omega)]
  simp [hS.P, h1, h2]
  have hp1 := hc.parts
  refine aIf_mk ⟨by omega, by omega⟩ ?_
  simp [hS.P]
  generalize hK : (AH.put _ (H.nx + 1) _) = K0
  have g0 : K0.get H.nx = .row [encConf c] 6 0 := by rw [← hK]; simp
  have g1 : K0.get (H.nx + 1) = .row (List.replicate c.parts.length (.csl [])) 1 0 := by rw [← hK]; simp
  have kk : ∀ i, H.get i ≠ .free → K0.get i = H.get i := by rw [← hK]; exact put_keeps (AH.free_add H 1) (put_keeps (by simp) (keeps_refl H))
  have hl16 := conf_links he
  obtain ⟨K1, w1, hC1, hZ1⟩ := CarryH.start (X := X) kk g1 (AH.free_add H 1) g0 (by simp) (by omega) (by have := AH.lt_nx (AH.ne_free g0); omega)
  generalize hb : K0.nx = b at hC1
  refine AWp.loop (S := Nat × List (List MsgD) × AH) (fun s => s.1 ≤ c.links.length ∧ carryGo here em (c.links.drop s.1) s.2.1 = carryOut c here em ∧ s.2.1.length = c.parts.length ∧ Grown s.2.1 (s.1 * 1048576) ∧ CarryH H s.2.2 (H.nx + 1) b s.2.1 ∧ s.2.2.get H.nx = .row [encConf c] 6 0)
    (fun s => [(1, encBools here), (2, encEm em), (3, .ptr H.nx 0 0 0), (8, .sl (H.nx + 1) 0 0 c.parts.length), (37, .fsl (c.links.map encLink)), (38, .int .i64 c.links.length), (39, .int .i64 s.1)]) (fun s => s.2.2) (fun s => c.links.length - s.1) (0, List.replicate c.parts.length [], K1)
    ⟨Nat.zero_le _, by simp [carryOut], by simp, fun l hl => by rw [(List.mem_replicate.1 hl).2]; simp, hC1, hZ1⟩ ((w1 _ _).trans (Wk.regs (by simp [encBools, encEm]))) fun s hs => ?_
  obtain ⟨n, outs, K⟩ := s
  obtain ⟨hn, hF, hlen, hgr, hC, hg⟩ := hs
  simp only at hn hF hlen hgr hC hg
  have hne : ¬ H.nx = K.nx := fun h => by have := AH.lt_nx (AH.ne_free hg); omega
  refine aC_sound (lv := []) _ _ _ _ ?_
  simp [hS.P]
  refine aCond_dec (fun hlt => ?_) (fun hge => ?_)
  · obtain ⟨x, hx⟩ : ∃ x, c.links[n]? = some x := ⟨c.links[n], List.getElem?_eq_getElem hlt⟩
    rw [carryGo_drop hx] at hF
    obtain ⟨hxs, hxd, hxn⟩ := hl16.2 x (List.mem_of_getElem? hx)
    obtain ⟨a, ha⟩ := Int.eq_ofNat_of_zero_le hxs.1
    obtain ⟨d, hd⟩ := Int.eq_ofNat_of_zero_le hxd.1
    have hal : a < c.parts.length := by have := hxs.2; omega
    have hdl : d < c.parts.length := by have := hxd.2; omega
    obtain ⟨va, hva⟩ : ∃ v, here[a]? = some v := ⟨here[a], List.getElem?_eq_getElem (by omega)⟩
    obtain ⟨vd, hvd⟩ : ∃ v, here[d]? = some v := ⟨here[d], List.getElem?_eq_getElem (by omega)⟩
    obtain ⟨ms, hms⟩ : ∃ v, em[a]? = some v := ⟨em[a], List.getElem?_eq_getElem (by omega)⟩
    simp [hS.P, hx, encBools, encEm, ha, hd, hva, hvd]
    have hsn : x.src.toNat = a := by omega
    have hdn : x.dst.toNat = d := by omega
    have off : ¬ (va = true ∧ vd = true) → addAt outs x.dst.toNat (linkMsgs here em x) = outs := fun h => by
      have : linkMsgs here em x = [] := by simp only [linkMsgs, hsn, hdn, hva, hvd]; rw [if_neg (by simpa using h)]
      rw [this, addAt_nil]
    cases va with
    | false =>
      rw [off (by simp)] at hF
      simp [hS.P]
      exact ⟨n + 1, outs, _, ⟨hlt, hF, hlen, hgr.mono (by omega), hC.fresh _, by simp [hne, hg]⟩, by omega, Wk.regs (by simp [wrap1 (n := n) (by omega), encBools, encEm])⟩
    | true =>
    simp [hS.P, ha, hd, hvd]
    cases vd with
    | false =>
      rw [off (by simp)] at hF
      simp [hS.P]
      exact ⟨n + 1, outs, _, ⟨hlt, hF, hlen, hgr.mono (by omega), hC.fresh _, by simp [hne, hg]⟩, by omega, Wk.regs (by simp [wrap1 (n := n) (by omega), encBools, encEm])⟩
    | true =>
    have hlm : linkMsgs here em x = carr x ms := by simp only [linkMsgs, hsn, hdn, hva, hvd, hms]; rw [if_pos (by simp)]; rfl
    rw [hlm, hdn] at hF
    have hml := hi.h3 ms (List.mem_of_getElem? hms)
    simp [hS.P, ha, hms, encMsgs]
    have hC2 := hC.fresh (.row [.agg [.int .i64 (a : Int), .int .i64 x.out, .int .i64 (d : Int), .int .i64 x.inn]] 4 0)
    have hZ2 : (K.put K.nx (.row [.agg [.int .i64 (a : Int), .int .i64 x.out, .int .i64 (d : Int), .int .i64 x.inn]] 4 0)).get H.nx = .row [encConf c] 6 0 := by simp [hne, hg]
    have hq2 : (K.put K.nx (.row [.agg [.int .i64 (a : Int), .int .i64 x.out, .int .i64 (d : Int), .int .i64 x.inn]] 4 0)).get K.nx = .row [.agg [.int .i64 (a : Int), .int .i64 x.out, .int .i64 (d : Int), .int .i64 x.inn]] 4 0 := by simp
    have hqH : H.get K.nx = .free := keepsNx hC.keep
    have hqb : ∀ j, j < outs.length → b + j ≠ K.nx := fun j hj => by
      obtain ⟨l, hl⟩ : ∃ l, outs[j]? = some l := ⟨outs[j], List.getElem?_eq_getElem hj⟩
      have := AH.lt_nx (AH.ne_free (hC.inner j l hl)); omega
    have hqR : H.nx + 1 ≠ K.nx := by have := AH.lt_nx (AH.ne_free hC.row); omega
    generalize hKq : K.put K.nx (.row [.agg [.int .i64 (a : Int), .int .i64 x.out, .int .i64 (d : Int), .int .i64 x.inn]] 4 0) = K2 at hC2 hZ2 hq2 ⊢
    generalize hq : K.nx = q at hq2 hqH hqb hqR ⊢
    refine AWp.loop (S := Nat × List (List MsgD) × AH) (fun s => s.1 ≤ ms.length ∧ addAt s.2.1 d (carr x (ms.drop s.1)) = addAt outs d (carr x ms) ∧ s.2.1.length = c.parts.length ∧ Grown s.2.1 (n * 1048576 + s.1) ∧ CarryH H s.2.2 (H.nx + 1) b s.2.1 ∧ s.2.2.get H.nx = .row [encConf c] 6 0 ∧ s.2.2.get q = .row [.agg [.int .i64 (a : Int), .int .i64 x.out, .int .i64 (d : Int), .int .i64 x.inn]] 4 0)
      (fun s => [(1, encBools here), (2, encEm em), (3, .ptr H.nx 0 0 0), (8, .sl (H.nx + 1) 0 0 c.parts.length), (10, .ptr q 0 0 0), (37, .fsl (c.links.map encLink)), (38, .int .i64 c.links.length), (39, .int .i64 n), (61, encMsgs ms), (62, .int .i64 ms.length), (63, .int .i64 s.1)]) (fun s => s.2.2) (fun s => ms.length - s.1) (0, outs, K2)
      ?_ (Wk.regs (by simp [encBools, encEm, encMsgs])) fun s hs => ?_
    · exact ⟨Nat.zero_le _, by simp, hlen, hgr.mono (by simp), hC2, hZ2, hq2⟩
    obtain ⟨k, o, K⟩ := s
    obtain ⟨hn', hF', hlen', hgr', hC', hg', hgq⟩ := hs
    simp only at hn' hF' hlen' hgr' hC' hg' hgq
    have nq : ¬ q = K.nx := fun h => by have := AH.lt_nx (AH.ne_free hgq); omega
    have nZ : ¬ H.nx = K.nx := fun h => by have := AH.lt_nx (AH.ne_free hg'); omega
    refine aC_sound (lv := []) _ _ _ _ ?_
    simp [hS.P]
    refine aCond_dec (fun hlt' => ?_) (fun hge' => ?_)
    · obtain ⟨m, hm⟩ : ∃ m, ms[k]? = some m := ⟨ms[k], List.getElem?_eq_getElem hlt'⟩
      rw [carr_drop hm] at hF'
      obtain ⟨lo, hlo⟩ : ∃ l, o[d]? = some l := ⟨o[d], List.getElem?_eq_getElem (by omega)⟩
      have hlol := hgr' lo (List.mem_of_getElem? hlo)
      simp [hS.P, encMsgs, hm, hgq, nq]
      refine aCond_mk (fun hp => ?_) (fun hp => ?_)
      · simp at hp
        have hxs := outRow_get (b := b) hlo
        have hxl := outRow_len b o
        have hrow := hC'.row
        have hinn := hC'.inner d lo hlo
        have hdb : d < (outRow b o).length := by omega
        generalize hxx : outRow b o = xs at hxs hxl hrow hdb
        have nR : ¬ H.nx + 1 = K.nx := fun h => by have := AH.lt_nx (AH.ne_free hrow); omega
        have nI : ¬ b + d = K.nx := fun h => by have := AH.lt_nx (AH.ne_free hinn); omega
        have nIR : ¬ b + d = H.nx + 1 := by have := hC'.lt; omega
        have nIR' : ¬ H.nx + 1 = b + d := by have := hC'.lt; omega
        simp [hS.P]
        rw [aC_draw (hc := by kernel_rfl)]
        simp [hS.P, hgq, nq, hdl, hrow, hxs, hinn, nR, nI, nIR, nIR']
        have hn16 := hl16.1
        refine aIf_mk (by omega) ?_
        simp [hS.P, hgq, nq, hdl, hrow, hxs, hinn, nR, nI, nIR, nIR', hdb]
        have hxs' : xs[d] = .sl (b + d) lo.length 0 lo.length := (List.getElem?_eq_some_iff.1 hxs).2
        refine aIf_mk (by rw [hxs']; simp [AV.cells]) ?_
        simp [hS.P, hgq, nq, hdl, hrow, hxs', hinn, nR, nI, nIR, nIR', hdb]
        have hbq : ¬ b + d = q := hqb d (by omega)
        refine aIf_mk ?_ ?_
        · simp [chkH, nq, nR, nI, nIR, nIR', hqR, hbq]
          repeat' apply And.intro
          all_goals kernel_rfl
        simp [hS.P, hgq, nq, hdl, hrow, hxs', hinn, nR, nI, nIR, nIR', hdb]
        subst hxx
        have hsp : (AV.sl (b + d) lo.length 0 lo.length).splice 0 (.sl (b + d) (lo.length + 1) 0 (lo.length + 1)) = .sl (b + d) (lo.length + 1) 0 (lo.length + 1) := rfl
        rw [hsp]
        rw [if_pos hp] at hF'
        refine ⟨k + 1, o.set d (lo ++ [⟨x.inn, m.data⟩]), _, ⟨hlt', ?_, by simpa using hlen', (hgr'.mono (by omega)).set (by simp; omega), (hC'.fresh _).app hlo ⟨x.inn, m.data⟩, ?_, ?_⟩, by omega, Wk.regs (by simp [wrap1 (n := k) (by omega), encBools, encEm, encMsgs])⟩
        · rw [← addAt_set hlo, addAt_add]; exact hF'
        · have e1 : ¬ H.nx = b + d := by have := hC'.lt; omega
          simp [nZ, hg', e1]
        · have hbq' : ¬ q = b + d := fun e => hbq e.symm
          simp [nq, hgq, Ne.symm hqR, hbq']

      · simp at hp
        rw [if_neg (by simpa using hp)] at hF'
        simp [hS.P]
        exact ⟨k + 1, o, _, ⟨hlt', by simpa using hF', hlen', hgr'.mono (by omega), hC'.fresh _, by simp [nZ, hg'], by simp [nq, hgq]⟩, by omega, Wk.regs (by simp [wrap1 (n := k) (by omega), encBools, encEm, encMsgs])⟩
    · obtain rfl : k = ms.length := by omega
      simp [carr] at hF'
      rw [addAt_nil] at hF'
      simp [hS.P]
      refine ⟨n + 1, o, K, ⟨hlt, by rw [hF']; exact hF, hlen', hgr'.mono (by omega), hC', hg'⟩, by omega, Wk.regs (by simp [wrap1 (n := n) (by omega), encBools, encEm])⟩
  · obtain rfl : n = c.links.length := by omega
    simp [carryGo] at hF
    simp [hS.P]
    rw [← hlen]
    refine hC.leave .nili (by simp) ⟨?_, rfl⟩
    rw [hE, hF]; simp [carryAns, hE, encErr]
end Go.Proofs.YtndoembhbfiokaaGreatDoor.Am
set_option linter.unusedVariables false
set_option linter.unusedSimpArgs false
namespace Go.Proofs.YtndoembhbfiokaaGreatDoor.Am
open Go.RowKit Go.Proofs

end Go.Proofs.YtndoembhbfiokaaGreatDoor.Am
set_option linter.unusedVariables false
set_option linter.unusedSimpArgs false
namespace Go.Proofs.YtndoembhbfiokaaGreatDoor.Am
open Go.RowKit Go.Proofs

@[simp] theorem encEm_data (em : List (List MsgD)) : (encEm em).Data := by simp [encEm]
@[simp] theorem encEm_cells (em : List (List MsgD)) : (encEm em).cells = [encEm em] := rfl
@[simp] theorem encEm_good (em : List (List MsgD)) : (encEm em).good = true := rfl
@[simp] theorem encEm_one (em : List (List MsgD)) : (encEm em).one = true := rfl
@[simp] theorem encBools_data (l : List Bool) : (encBools l).Data := by
  simp only [encBools, data_fsl, List.mem_map]
  rintro x ⟨b, _, rfl⟩ c hc
  simp [AV.cells] at hc; subst hc; simp
@[simp] theorem encBools_cells (l : List Bool) : (encBools l).cells = [encBools l] := rfl
@[simp] theorem encBools_good (l : List Bool) : (encBools l).good = true := rfl
@[simp] theorem encBools_one (l : List Bool) : (encBools l).one = true := rfl
def smallPlan (i k : Int) : PlanD := ⟨i, false, [⟨5, []⟩], [⟨0, 0, false⟩], [⟨k, 4, 2, 0⟩], 0, []⟩
def smallConf : ConfD := ⟨100, [smallPlan 0 4, smallPlan 1 3], [0, 0], [⟨0, 0, 40⟩, ⟨-1, 50, 10⟩, ⟨1, 60, 20⟩, ⟨0, 80, 20⟩], [⟨0, 0, 1, 0⟩], 5⟩
theorem small14_spec {X : Ctx} (hS : Sent X) : ACalc X 29 [] (encConf smallConf) := by
  intro H
  refine acalls' (N := 29) (rs := [.cell 0 56]) [] (by rw [hS.P]; exact Tryz.func29) rfl rfl rfl (by decide) (by simp) ?_
  have f1 : H.get (H.nx + 1) = .free := AH.free_add H 1
  have f2 : H.get (H.nx + 2) = .free := AH.free_add H 2
  simp [entryR, hS.P]
  refine Leave.le (v' := encConf smallConf) (Le.aggL ⟨Le.refl _, Le.cslR ⟨LeL.cells ⟨Le.refl _, Le.refl _, Le.csl _, Le.csl _, Le.csl _, Le.refl _, Le.csl _, trivial⟩, LeL.cells ⟨Le.refl _, Le.refl _, Le.csl _, Le.csl _, Le.csl _, Le.refl _, Le.csl _, trivial⟩, trivial⟩, Le.csl _, Le.csl _, Le.csl _, Le.refl _, trivial⟩) ?_
  exact Leave.data (put_keeps (by simp) (put_keeps f2 (put_keeps f1 (put_keeps (by simp) (keeps_refl H))))) (encConf_data _) ⟨rfl, rfl⟩
end Go.Proofs.YtndoembhbfiokaaGreatDoor.Am
set_option linter.unusedVariables false
set_option linter.unusedSimpArgs false
namespace Go.Proofs.YtndoembhbfiokaaGreatDoor.Am
open Go.RowKit Go.Proofs

def smallConf2 : ConfD := { smallConf with ticks := 99 }
theorem smallPlan_ok0 : planE (smallPlan 0 4) = .none := by decide
theorem smallPlan_ok1 : planE (smallPlan 1 3) = .none := by decide
theorem small_parts : firstBadI partBad smallConf.parts 0 = .none := by
  simp [smallConf, firstBadI, partBad, smallPlan_ok0, smallPlan_ok1]
  simp [smallPlan]
theorem small_homes : homesE smallConf = .none := by decide
theorem small_head : headE smallConf = .none := by
  have h : partsE smallConf = .none := by
    unfold partsE
    rw [if_neg (by decide), small_parts, small_homes]; rfl
  rw [headE, h]; decide
theorem small_wins : windowsE smallConf = .none := by decide
theorem small_links : linksE smallConf = .none := by decide
theorem small_ok : confE smallConf = .none := by
  rw [confE, small_head, small_wins, small_links]; rfl
theorem small_bad : confE smallConf2 = .at 3 4 := by
  have h : headE smallConf2 = .none := by
    have h1 : partsE smallConf2 = partsE smallConf := rfl
    have h2 := (or_none small_head).2
    rw [headE, h1, h2]; decide
  have h2 : windowsE smallConf2 = .at 3 4 := by decide
  rw [confE, h, h2]; rfl
theorem small_Small : smallConf.Small := ⟨by decide, by
  intro p hp
  simp [smallConf] at hp
  rcases hp with rfl | rfl <;> exact ⟨by decide, by decide, by decide, by decide⟩, by decide, by decide, by decide⟩
theorem small_own : ownErr smallConf 0 = .none := by simp only [ownErr, small_ok]; rw [if_neg (by simp), if_pos (by decide)]
theorem small_load : sumW (winAns smallConf 0) = 60 := by simp only [winAns, small_own]; decide
theorem small_nextE : nextErr smallConf 0 40 = .none := by
  simp only [nextErr, small_own]; rw [if_neg (by simp), if_pos (by decide), if_pos (by decide)]
theorem small_next : nextAns smallConf 0 40 = 80 := by simp only [nextAns, small_nextE]; decide
def smallEm : List (List MsgD) := [[⟨0, [97]⟩], []]
theorem small_carryE : carryErr smallConf [true, true] smallEm = .none := by
  simp only [carryErr, small_ok]; rw [if_neg (by simp), if_neg (by decide)]
theorem small_carry : carryAns smallConf [true, true] smallEm = [[], [⟨0, [97]⟩]] := by simp only [carryAns, small_carryE]; decide
@[simp] theorem encConf_splice0 (c : ConfD) (t : Int) : (encConf c).splice 0 (.int .i64 t) = encConf { c with ticks := t } := rfl
set_option maxRecDepth 8000 in
theorem fixed14_spec {X : Ctx} (hS : Sent X) : ACalc X 13 [] (.bool true) := by
  intro H
  refine acalls' (N := 80) (rs := [.tmp 0]) [] (by rw [hS.P]; exact Tryz.func13) rfl rfl rfl (by decide) (by simp) ?_
  have f1 : H.get (H.nx + 1) = .free := AH.free_add H 1
  simp [entryR, hS.P]
  refine (small14_spec hS).go ?_
  simp [hS.P]
  refine (load_spec hS smallConf small_Small 0).go ?_
  simp [hS.P, small_load, small_own]
  refine (frameCheck_spec hS smallConf small_Small).go ?_
  simp [hS.P, small_ok, encErr]
  refine (next_spec hS smallConf small_Small 0 40).go ?_
  simp [hS.P, small_next, small_nextE, encErr]
  refine ACalls.le [encConf smallConf, encBools [true, true], encEm smallEm] ⟨Le.refl _, Le.csl _, Le.cslR ⟨LeL.cells ⟨Le.csl _, trivial⟩, LeL.cells ⟨Le.csl _, trivial⟩, trivial⟩, trivial⟩ ?_
  refine (carry_spec hS smallConf small_Small [true, true] smallEm ⟨by decide, by decide, by simp [smallEm]⟩).go ?_
  rw [small_carry, small_carryE]
  simp [hS.P, encErr]
  simp only [encMsgs]
  simp [hS.P]
  simp only [encMsgs]
  simp [hS.P, encMsg]
  have sm2 : smallConf2.Small := ⟨small_Small.parts, small_Small.part, small_Small.homes, small_Small.windows, small_Small.links⟩
  refine (frameCheck_spec hS smallConf2 sm2).go ?_
  simp [hS.P, small_bad]
  refine (code_spec hS (.at 3 4) (by simp [PE.Ok])).go ?_
  simp [hS.P, PE.code, codeG]
  refine (place_spec hS (.at 3 4)).go ?_
  simp [hS.P, PE.place]
  exact Leave.data (put_keeps (by simp) (keeps_refl H)) (by simp) ⟨rfl, rfl⟩
end Go.Proofs.YtndoembhbfiokaaGreatDoor.Am
set_option linter.unusedVariables false
set_option linter.unusedSimpArgs false
namespace Go.Proofs.YtndoembhbfiokaaGreatDoor.Am
open Go.RowKit Go.Proofs

structure CaseD where
  c : ConfD
  d : ConfD
  numbers : List Int
  here : List Bool
  emitted : List (List MsgD)
def caseCells (x : CaseD) : List AV :=
  [.int .i64 x.c.ticks, .fsl (x.c.parts.map encPlan), .fsl (x.c.homes.map encInt), .fsl (x.c.windows.map encWin), .fsl (x.c.links.map encLink), .int .i64 x.c.tries,
   .int .i64 x.d.ticks, .fsl (x.d.parts.map encPlan), .fsl (x.d.homes.map encInt), .fsl (x.d.windows.map encWin), .fsl (x.d.links.map encLink), .int .i64 x.d.tries,
   .fsl (x.numbers.map encInt), encBools x.here, encEm x.emitted]
def encCase (x : CaseD) : AV := .agg (caseCells x)
@[simp] theorem encCase_cells (x : CaseD) : (encCase x).cells = [.int .i64 x.c.ticks, .fsl (x.c.parts.map encPlan), .fsl (x.c.homes.map encInt), .fsl (x.c.windows.map encWin), .fsl (x.c.links.map encLink), .int .i64 x.c.tries,
   .int .i64 x.d.ticks, .fsl (x.d.parts.map encPlan), .fsl (x.d.homes.map encInt), .fsl (x.d.windows.map encWin), .fsl (x.d.links.map encLink), .int .i64 x.d.tries,
   .fsl (x.numbers.map encInt), encBools x.here, encEm x.emitted] := rfl
@[simp] theorem encCase_good (x : CaseD) : (encCase x).good = true := rfl
@[simp] theorem encCase_isAgg (x : CaseD) : (encCase x).isAgg = true := rfl
structure CaseD.Small (x : CaseD) : Prop where
  c : x.c.Small
  d : x.d.Small
  numbers : x.numbers.length ≤ 1073741824
  carry : CarryIn x.c x.here x.emitted
theorem carryErr_ok (c : ConfD) (here : List Bool) (em : List (List MsgD)) : (carryErr c here em).Ok := by unfold carryErr; split <;> (try split) <;> simp [PE.Ok]
theorem carryErr_place (c : ConfD) (here : List Bool) (em : List (List MsgD)) : (carryErr c here em).place = -1 := by unfold carryErr; split <;> (try split) <;> simp [PE.place]
theorem carr_len (l : LinkD) (ms : List MsgD) : (carr l ms).length ≤ ms.length := by
  simp only [carr, List.length_map]; exact List.length_filter_le _ _
theorem linkMsgs_len {here : List Bool} {em : List (List MsgD)} (h : ∀ l ∈ em, l.length ≤ 1048576) (l : LinkD) : (linkMsgs here em l).length ≤ 1048576 := by
  unfold linkMsgs; split
  · cases he : em[l.src.toNat]? with
    | none => simp
    | some ms => exact Nat.le_trans (carr_len l ms) (h ms (List.mem_of_getElem? he))
  · simp
theorem addAt_grown {outs : List (List MsgD)} {b k d : Nat} {x : List MsgD} (h : Grown outs b) (hx : x.length ≤ k) : Grown (addAt outs d x) (b + k) := by
  cases hd : outs[d]? with
  | none =>
    have : addAt outs d x = outs := by
      apply List.ext_getElem?; intro j
      simp only [addAt, List.getElem?_modify]
      by_cases e : d = j
      · subst e; simp [hd]
      · simp [e]
    rw [this]; exact h.mono (by omega)
  | some l =>
    rw [addAt_set hd]
    refine (h.mono (by omega)).set ?_
    have := h l (List.mem_of_getElem? hd)
    simp; omega
theorem carryGo_grown {here : List Bool} {em : List (List MsgD)} (h : ∀ l ∈ em, l.length ≤ 1048576) : ∀ (ls : List LinkD) (outs : List (List MsgD)) (b : Nat), Grown outs b → Grown (carryGo here em ls outs) (b + ls.length * 1048576)
  | [], outs, b, hg => by simpa [carryGo] using hg
  | l :: ls, outs, b, hg => by
    have := carryGo_grown (here := here) h ls (addAt outs l.dst.toNat (linkMsgs here em l)) (b + 1048576) (addAt_grown hg (linkMsgs_len h l))
    refine Grown.mono this ?_
    rw [List.length_cons, Nat.add_mul]; omega
theorem carryGo_len {here : List Bool} {em : List (List MsgD)} : ∀ (ls : List LinkD) (outs : List (List MsgD)), (carryGo here em ls outs).length = outs.length
  | [], outs => rfl
  | l :: ls, outs => by
    have := carryGo_len (here := here) (em := em) ls (addAt outs l.dst.toNat (linkMsgs here em l))
    rw [addAt, List.length_modify] at this
    exact this
theorem carryAns_small {c : ConfD} (hc : c.Small) {here : List Bool} {em : List (List MsgD)} (hi : CarryIn c here em) : (carryAns c here em).length ≤ 1073741824 ∧ ∀ l ∈ carryAns c here em, l.length ≤ 1073741824 := by
  unfold carryAns
  split
  · rename_i h
    have he : confE c = .none := by
      unfold carryErr at h
      split at h
      · cases h
      · rename_i h2; exact Classical.byContradiction h2
    have h16 := (conf_links he).1
    refine ⟨by rw [carryOut, carryGo_len]; simpa using hc.parts, fun l hl => ?_⟩
    have := carryGo_grown (here := here) hi.h3 c.links (List.replicate c.parts.length []) 0 (fun l hl => by rw [(List.mem_replicate.1 hl).2]; simp) l hl
    omega
  · simp
end Go.Proofs.YtndoembhbfiokaaGreatDoor.Am
/- How the arguments' types are read: plans, configurations, messages. -/
set_option linter.unusedVariables false
set_option linter.unusedSimpArgs false
namespace Go.Proofs.YtndoembhbfiokaaGreatDoor.Am
open Go Go.RowKit Go.Proofs Go.Proofs.YtndoembhbfiokaaGreatDoor Go.ChangeShapes Go.WideShapes Go.ChangeAt

theorem sum_ones {α : Type} : ∀ l : List α, (l.map fun _ => 1).sum = l.length
  | [] => rfl
  | _ :: l => by simp [sum_ones l]; omega
theorem sum_ge_len {α : Type} (f : α → Nat) (h : ∀ a, 1 ≤ f a) : ∀ l : List α, l.length ≤ (l.map f).sum
  | [] => by simp
  | a :: l => by have := sum_ge_len f h l; have := h a; simp; omega
theorem le_sum_of_mem {α : Type} (f : α → Nat) : ∀ (l : List α) (a : α), a ∈ l → f a ≤ (l.map f).sum
  | [], _, h => by cases h
  | b :: l, a, h => by
    rcases List.mem_cons.1 h with rfl | h
    · simp
    · have := le_sum_of_mem f l a h; simp; omega
abbrev UB {H : Type} (d : DataW H) : Nat := Rows.uptoBulk d
theorem decInt : Dec (@UB) Tryz.prog 3 (fun n : Int => [encInt n]) 1 (fun _ => 1) (fun _ => True) :=
  (Dec.int bulk Tryz.underlying3 (by kernel_rfl)).map (fun n => n) (fun _ => rfl) (fun _ => Nat.le_refl _) (fun _ _ => trivial) (fun _ _ => rfl)
theorem decIntW : Dec (@UB) Tryz.prog 3 (fun n : Int => [encInt n]) 1 (fun _ => 1) (fun n => (Lit.int .i64 n).wf = true) :=
  (Dec.int bulk Tryz.underlying3 (by kernel_rfl)).map (fun n => n) (fun _ => rfl) (fun _ => Nat.le_refl _) (fun _ h => h) (fun _ _ => rfl)
theorem decBool : Dec (@UB) Tryz.prog 4 (fun b : Bool => [.bool b]) 1 (fun _ => 1) (fun _ => True) :=
  Dec.bool bulk Tryz.underlying4 (by kernel_rfl)
theorem decStr : Dec (@UB) Tryz.prog 9 (fun s : List UInt8 => [.str s]) 1 (fun s => s.length + 1) (fun _ => True) :=
  Dec.str bulk Tryz.underlying9 (by kernel_rfl)
theorem decInts : Dec (@UB) Tryz.prog 25 (fun xs : List Int => [.fsl (xs.map encInt)]) 1 (fun xs => xs.length + 1) (fun _ => True) :=
  (Dec.slice bulk Tryz.underlying25 (by kernel_rfl) decInt (by decide) encInt (fun _ => rfl)).map (fun xs => xs) (fun _ => rfl) (fun xs => by simp [sum_ones]) (fun _ _ => trivial) (fun _ _ => rfl)
theorem decBools : Dec (@UB) Tryz.prog 35 (fun xs : List Bool => [encBools xs]) 1 (fun xs => xs.length + 1) (fun _ => True) :=
  (Dec.slice bulk Tryz.underlying35 (by kernel_rfl) decBool (by decide) AV.bool (fun _ => rfl)).map (fun xs => xs) (fun _ => rfl) (fun xs => by simp [sum_ones]) (fun _ _ => trivial) (fun _ _ => rfl)
theorem decPage : Dec (@UB) Tryz.prog 82 (fun p : PageD => [.int .i64 p.rights, .str p.init]) 2 (fun p => p.init.length + 1) (fun _ => True) :=
  (Dec.struct bulk Tryz.underlying82 (by kernel_rfl) (DecFs.cons decInt rfl (DecFs.cons decStr rfl (DecFs.nil _)))).map (fun x => (⟨x.1, x.2.1⟩ : PageD)) (fun _ => rfl) (fun x => by simp; omega) (fun _ _ => trivial) (fun _ _ => rfl)
theorem decProc : Dec (@UB) Tryz.prog 75 (fun p : ProcD => [.int .i64 p.entry, .int .i64 p.prio, .bool p.auto]) 3 (fun _ => 1) (fun _ => True) :=
  (Dec.struct bulk Tryz.underlying75 (by kernel_rfl) (DecFs.cons decInt rfl (DecFs.cons decInt rfl (DecFs.cons decBool rfl (DecFs.nil _))))).map (fun x => (⟨x.1, x.2.1, x.2.2.1⟩ : ProcD)) (fun _ => rfl) (fun x => by simp) (fun _ _ => trivial) (fun _ _ => rfl)
theorem decPort : Dec (@UB) Tryz.prog 119 (fun p : PortD => [.int .i64 p.kind, .int .i64 p.size, .int .i64 p.depth, .int .i64 p.refresh]) 4 (fun _ => 1) (fun _ => True) :=
  (Dec.struct bulk Tryz.underlying119 (by kernel_rfl) (DecFs.cons decInt rfl (DecFs.cons decInt rfl (DecFs.cons decInt rfl (DecFs.cons decInt rfl (DecFs.nil _)))))).map (fun x => (⟨x.1, x.2.1, x.2.2.1, x.2.2.2.1⟩ : PortD)) (fun _ => rfl) (fun x => by simp) (fun _ _ => trivial) (fun _ _ => rfl)
def bkPages (l : List PageD) : Nat := (l.map fun p => p.init.length + 1).sum
def bkPlan (p : PlanD) : Nat := bkPages p.pages + p.procs.length + p.ports.length + p.sems.length + 1
def planCells (p : PlanD) : List AV := [.int .i64 p.id, .bool p.mobile, .fsl (p.pages.map encPage), .fsl (p.procs.map encProc), .fsl (p.ports.map encPort), .int .i64 p.events, .fsl (p.sems.map encInt)]
theorem decPages : Dec (@UB) Tryz.prog 22 (fun xs : List PageD => [.fsl (xs.map encPage)]) 1 (fun xs => bkPages xs + 1) (fun _ => True) :=
  (Dec.slice bulk Tryz.underlying22 (by kernel_rfl) decPage (by decide) encPage (fun _ => rfl)).map (fun xs => xs) (fun _ => rfl) (fun xs => Nat.le_refl _) (fun _ _ => trivial) (fun _ _ => rfl)
theorem decProcs : Dec (@UB) Tryz.prog 23 (fun xs : List ProcD => [.fsl (xs.map encProc)]) 1 (fun xs => xs.length + 1) (fun _ => True) :=
  (Dec.slice bulk Tryz.underlying23 (by kernel_rfl) decProc (by decide) encProc (fun _ => rfl)).map (fun xs => xs) (fun _ => rfl) (fun xs => by simp [sum_ones]) (fun _ _ => trivial) (fun _ _ => rfl)
theorem decPorts : Dec (@UB) Tryz.prog 24 (fun xs : List PortD => [.fsl (xs.map encPort)]) 1 (fun xs => xs.length + 1) (fun _ => True) :=
  (Dec.slice bulk Tryz.underlying24 (by kernel_rfl) decPort (by decide) encPort (fun _ => rfl)).map (fun xs => xs) (fun _ => rfl) (fun xs => by simp [sum_ones]) (fun _ _ => trivial) (fun _ _ => rfl)
theorem decPlan : Dec (@UB) Tryz.prog 27 planCells 7 bkPlan (fun _ => True) :=
  (Dec.struct bulk Tryz.underlying27 (by kernel_rfl) (DecFs.cons decInt rfl (DecFs.cons decBool rfl (DecFs.cons decPages rfl (DecFs.cons decProcs rfl (DecFs.cons decPorts rfl (DecFs.cons decInt rfl (DecFs.cons decInts rfl (DecFs.nil _))))))))).map
    (fun x => (⟨x.1, x.2.1, x.2.2.1, x.2.2.2.1, x.2.2.2.2.1, x.2.2.2.2.2.1, x.2.2.2.2.2.2.1⟩ : PlanD)) (fun _ => rfl) (fun x => by simp [bkPlan]; omega) (fun _ _ => trivial) (fun _ _ => rfl)
theorem bkPages_len (l : List PageD) : l.length ≤ bkPages l := sum_ge_len _ (fun _ => by omega) l
theorem planSmall {p : PlanD} (h : bkPlan p ≤ 1048576) : p.Small := by
  have := bkPages_len p.pages
  unfold bkPlan at h
  exact ⟨by omega, by omega, by omega, by omega⟩
end Go.Proofs.YtndoembhbfiokaaGreatDoor.Am
set_option linter.unusedVariables false
set_option linter.unusedSimpArgs false
namespace Go.Proofs.YtndoembhbfiokaaGreatDoor.Am
open Go Go.RowKit Go.Proofs Go.Proofs.YtndoembhbfiokaaGreatDoor Go.ChangeShapes Go.WideShapes Go.ChangeAt

def bkPlans (l : List PlanD) : Nat := (l.map bkPlan).sum
theorem decPlans : Dec (@UB) Tryz.prog 52 (fun xs : List PlanD => [.fsl (xs.map encPlan)]) 1 (fun xs => bkPlans xs + 1) (fun _ => True) :=
  (Dec.slice bulk Tryz.underlying52 (by kernel_rfl) decPlan (by decide) encPlan (fun _ => rfl)).map (fun xs => xs) (fun _ => rfl) (fun xs => Nat.le_refl _) (fun _ _ => trivial) (fun _ _ => rfl)
theorem decWin : Dec (@UB) Tryz.prog 143 (fun w : WinD => [.int .i64 w.part, .int .i64 w.start, .int .i64 w.len]) 3 (fun _ => 1) (fun _ => True) :=
  (Dec.struct bulk Tryz.underlying143 (by kernel_rfl) (DecFs.cons decInt rfl (DecFs.cons decInt rfl (DecFs.cons decInt rfl (DecFs.nil _))))).map (fun x => (⟨x.1, x.2.1, x.2.2.1⟩ : WinD)) (fun _ => rfl) (fun x => by simp) (fun _ _ => trivial) (fun _ _ => rfl)
theorem decLink : Dec (@UB) Tryz.prog 145 (fun w : LinkD => [.int .i64 w.src, .int .i64 w.out, .int .i64 w.dst, .int .i64 w.inn]) 4 (fun _ => 1) (fun _ => True) :=
  (Dec.struct bulk Tryz.underlying145 (by kernel_rfl) (DecFs.cons decInt rfl (DecFs.cons decInt rfl (DecFs.cons decInt rfl (DecFs.cons decInt rfl (DecFs.nil _)))))).map (fun x => (⟨x.1, x.2.1, x.2.2.1, x.2.2.2.1⟩ : LinkD)) (fun _ => rfl) (fun x => by simp) (fun _ _ => trivial) (fun _ _ => rfl)
theorem decWins : Dec (@UB) Tryz.prog 53 (fun xs : List WinD => [.fsl (xs.map encWin)]) 1 (fun xs => xs.length + 1) (fun _ => True) :=
  (Dec.slice bulk Tryz.underlying53 (by kernel_rfl) decWin (by decide) encWin (fun _ => rfl)).map (fun xs => xs) (fun _ => rfl) (fun xs => by simp [sum_ones]) (fun _ _ => trivial) (fun _ _ => rfl)
theorem decLinks : Dec (@UB) Tryz.prog 54 (fun xs : List LinkD => [.fsl (xs.map encLink)]) 1 (fun xs => xs.length + 1) (fun _ => True) :=
  (Dec.slice bulk Tryz.underlying54 (by kernel_rfl) decLink (by decide) encLink (fun _ => rfl)).map (fun xs => xs) (fun _ => rfl) (fun xs => by simp [sum_ones]) (fun _ _ => trivial) (fun _ _ => rfl)
def bkConf (c : ConfD) : Nat := bkPlans c.parts + c.homes.length + c.windows.length + c.links.length + 1
def confCells (c : ConfD) : List AV := [.int .i64 c.ticks, .fsl (c.parts.map encPlan), .fsl (c.homes.map encInt), .fsl (c.windows.map encWin), .fsl (c.links.map encLink), .int .i64 c.tries]
theorem decConf : Dec (@UB) Tryz.prog 56 confCells 6 bkConf (fun _ => True) :=
  (Dec.struct bulk Tryz.underlying56 (by kernel_rfl) (DecFs.cons decInt rfl (DecFs.cons decPlans rfl (DecFs.cons decInts rfl (DecFs.cons decWins rfl (DecFs.cons decLinks rfl (DecFs.cons decInt rfl (DecFs.nil _)))))))).map
    (fun x => (⟨x.1, x.2.1, x.2.2.1, x.2.2.2.1, x.2.2.2.2.1, x.2.2.2.2.2.1⟩ : ConfD)) (fun _ => rfl) (fun x => by simp [bkConf]; omega) (fun _ _ => trivial) (fun _ _ => rfl)
theorem bkPlans_len (l : List PlanD) : l.length ≤ bkPlans l := sum_ge_len _ (fun p => by unfold bkPlan; omega) l
theorem confSmall {c : ConfD} (h : bkConf c ≤ 1048576) : c.Small := by
  have := bkPlans_len c.parts
  unfold bkConf at h
  refine ⟨by omega, fun p hp => planSmall ?_, by omega, by omega, by omega⟩
  have := le_sum_of_mem bkPlan _ _ hp
  unfold bkPlans at h; omega
theorem decMsg : Dec (@UB) Tryz.prog 97 (fun m : MsgD => [.int .i64 m.port, .str m.data]) 2 (fun m => m.data.length + 1) (fun _ => True) :=
  (Dec.struct bulk Tryz.underlying97 (by kernel_rfl) (DecFs.cons decInt rfl (DecFs.cons decStr rfl (DecFs.nil _)))).map (fun x => (⟨x.1, x.2.1⟩ : MsgD)) (fun _ => rfl) (fun x => by simp; omega) (fun _ _ => trivial) (fun _ _ => rfl)
def bkMsgs (l : List MsgD) : Nat := (l.map fun m => m.data.length + 1).sum
theorem decMsgs : Dec (@UB) Tryz.prog 98 (fun xs : List MsgD => [encMsgs xs]) 1 (fun xs => bkMsgs xs + 1) (fun _ => True) :=
  (Dec.slice bulk Tryz.underlying98 (by kernel_rfl) decMsg (by decide) encMsg (fun _ => rfl)).map (fun xs => xs) (fun _ => rfl) (fun xs => Nat.le_refl _) (fun _ _ => trivial) (fun _ _ => rfl)
def bkEm (l : List (List MsgD)) : Nat := (l.map fun m => bkMsgs m + 1).sum
theorem decEm : Dec (@UB) Tryz.prog 57 (fun xs : List (List MsgD) => [encEm xs]) 1 (fun xs => bkEm xs + 1) (fun _ => True) :=
  (Dec.slice bulk Tryz.underlying57 (by kernel_rfl) decMsgs (by decide) encMsgs (fun _ => rfl)).map (fun xs => xs) (fun _ => rfl) (fun xs => Nat.le_refl _) (fun _ _ => trivial) (fun _ _ => rfl)
theorem emSmall {em : List (List MsgD)} (h : bkEm em ≤ 1048576) : em.length ≤ 1073741824 ∧ ∀ l ∈ em, l.length ≤ 1048576 := by
  have h1 : em.length ≤ bkEm em := sum_ge_len _ (fun m => by omega) em
  refine ⟨by omega, fun l hl => ?_⟩
  have h2 := le_sum_of_mem (fun m => bkMsgs m + 1) _ _ hl
  have h3 : l.length ≤ bkMsgs l := sum_ge_len _ (fun m => by omega) l
  simp only [bkEm] at h
  have h2 : bkMsgs l + 1 ≤ (em.map fun m => bkMsgs m + 1).sum := h2
  omega
def bkCase (x : CaseD) : Nat := bkConf x.c + bkConf x.d + x.numbers.length + x.here.length + bkEm x.emitted + 1
theorem decCase : Dec (@UB) Tryz.prog 59 caseCells 15 bkCase (fun _ => True) :=
  (Dec.struct bulk Tryz.underlying59 (by kernel_rfl) (DecFs.cons decConf rfl (DecFs.cons decConf rfl (DecFs.cons decInts rfl (DecFs.cons decBools rfl (DecFs.cons decEm rfl (DecFs.nil _))))))).map
    (fun x => (⟨x.1, x.2.1, x.2.2.1, x.2.2.2.1, x.2.2.2.2.1⟩ : CaseD)) (fun _ => rfl) (fun x => by simp [bkCase]; omega) (fun _ _ => trivial) (fun _ _ => rfl)
theorem caseSmall {x : CaseD} (h : bkCase x ≤ 1048576) : x.Small := by
  unfold bkCase at h
  have := emSmall (em := x.emitted) (by omega)
  exact ⟨confSmall (by omega), confSmall (by omega), by omega, ⟨by omega, this.1, this.2⟩⟩
end Go.Proofs.YtndoembhbfiokaaGreatDoor.Am
set_option linter.unusedVariables false
set_option linter.unusedSimpArgs false
namespace Go.Proofs.YtndoembhbfiokaaGreatDoor.Am
open Go.RowKit Go.Proofs

noncomputable def idleErr (c : ConfD) : PE := if confE c ≠ .none then .bare 8 else .none
noncomputable def idleAns (c : ConfD) : Int := if idleErr c = .none then c.ticks - sumW c.windows else 0
theorem idleErr_none {c : ConfD} (h : confE c = .none) : idleErr c = .none := by simp [idleErr, h]
theorem idle_spec {X : Ctx} (hS : Sent X) (c : ConfD) (hc : c.Small) : ACalc X 15 [encConf c] (.tup [.int .i64 (idleAns c), encErr (idleErr c)]) := by
  intro H
  refine acalls' (N := 14) (rs := [.tmp 2, .tmp 3]) [] (by rw [hS.P]; exact Tryz.func15) rfl rfl rfl (by decide) (by simp) ?_
  have hk0 : ∀ i, H.get i ≠ .free → (H.put H.nx (.row [encConf c] 6 0)).get i = H.get i := put_keeps (by simp) (keeps_refl H)
  simp [entryR, hS.P]
  refine (frameCheck_spec hS c hc).go ?_
  by_cases he : confE c = .none
  · have hw := conf_windows he
    have hwl : ∀ w ∈ c.windows, 0 ≤ w.len ∧ w.len ≤ 10000 := fun w hw' => by
      have h1 := hw.2.1 w hw'
      have := h1.start; have := h1.len; have := h1.fits; omega
    have hb := sumW_bound c.windows hwl
    have v1 : IntKind.i64.wrap (c.ticks - sumW c.windows) = c.ticks - sumW c.windows := wrap64 (by omega) (by omega)
    simp [hS.P, he, encErr]
    rw [aC_draw (hc := by kernel_rfl)]
    simp [hS.P]
    refine (sum_spec hS c.windows hc.windows hwl).call ?_
    simp [hS.P, v1]
    refine aIf_mk (chkH_reads (by simp)) ?_
    simp
    exact Leave.data hk0 (by simp) ⟨by simp [idleAns, idleErr_none he, encErr], rfl⟩
  · obtain ⟨T, v, hT⟩ := encErr_iface he
    simp [hS.P, hT]
    rw [aC_draw (hc := by kernel_rfl)]
    simp [hS.P, hS.e8]
    have hE : idleErr c = .bare 8 := by simp [idleErr, he]
    exact Leave.data hk0 (by simp) ⟨by simp [idleAns, hE, encErr], rfl⟩

def atW : List WinD → Int → Option Int
  | [], _ => none
  | w :: l, t => if w.start ≤ t ∧ t < w.start + w.len then some w.part else atW l t
theorem atW_drop {l : List WinD} {k : Nat} {w : WinD} (h : l[k]? = some w) (t : Int) : atW (l.drop k) t = if w.start ≤ t ∧ t < w.start + w.len then some w.part else atW (l.drop (k + 1)) t := by
  obtain ⟨hn, he⟩ := List.getElem?_eq_some_iff.1 h
  rw [List.drop_eq_getElem_cons hn, he]; rfl
noncomputable def atErr (c : ConfD) (t : Int) : PE :=
  if confE c ≠ .none then .bare 8 else if 0 ≤ t ∧ t < c.ticks then (if (atW c.windows t).isSome then .none else .bare 17) else .bare 12
noncomputable def atAns (c : ConfD) (t : Int) : Int := if atErr c t = .none then (atW c.windows t).getD 0 else 0
theorem frameTick_spec {X : Ctx} (hS : Sent X) (c : ConfD) (hc : c.Small) (t : Int) : ACalc X 44 [encConf c, .int .i64 t] (.tup [.int .i64 (atAns c t), encErr (atErr c t)]) := by
  intro H
  refine acalls' (N := 45) (rs := [.tmp 4, .tmp 5]) [] (by rw [hS.P]; exact Tryz.func44) rfl rfl rfl (by decide) (by simp) ?_
  have fin : ∀ {K : AH} (e : PE) (v : Int), (∀ i, H.get i ≠ .free → K.get i = H.get i) → atErr c t = e → atAns c t = v → Leave X H (.tup [.int .i64 v, encErr e]) K fun v' H' => v' = .tup [.int .i64 (atAns c t), encErr (atErr c t)] ∧ H' = H := fun e v hk he hv => by
    subst he hv
    exact Leave.data hk (by simp) ⟨rfl, rfl⟩
  have hk0 : ∀ i, H.get i ≠ .free → (H.put H.nx (.row [encConf c] 6 0)).get i = H.get i := put_keeps (by simp) (keeps_refl H)
  simp [entryR, hS.P]
  refine (frameCheck_spec hS c hc).go ?_
  by_cases he : confE c = .none
  · have hw := conf_windows he
    simp [hS.P, he, encErr]
    by_cases ht0 : t < 0
    · simp [hS.P, ht0]
      rw [aC_draw (hc := by kernel_rfl)]
      simp [hS.P, hS.e12]
      have hE : atErr c t = .bare 12 := by simp only [atErr]; rw [if_neg (by simp [he]), if_neg (by omega)]
      exact fin (.bare 12) 0 hk0 hE (by simp [atAns, hE])
    simp [hS.P, ht0]
    refine aCond_dec (fun ht1 => ?_) (fun ht1 => ?_)
    · simp [hS.P]
      rw [aC_draw (hc := by kernel_rfl)]
      simp [hS.P, hS.e12]
      have hE : atErr c t = .bare 12 := by simp only [atErr]; rw [if_neg (by simp [he]), if_neg (by omega)]
      exact fin (.bare 12) 0 hk0 hE (by simp [atAns, hE])
    have hE : atErr c t = if (atW c.windows t).isSome then .none else .bare 17 := by simp only [atErr]; rw [if_neg (by simp [he]), if_pos (by omega)]
    simp [hS.P]
    refine AWp.loop (S := Nat × AH) (fun s => s.1 ≤ c.windows.length ∧ atW (c.windows.drop s.1) t = atW c.windows t ∧ ∀ i, H.get i ≠ .free → s.2.get i = H.get i)
      (fun s => [(1, .int .i64 t), (22, .fsl (c.windows.map encWin)), (23, .int .i64 c.windows.length), (24, .int .i64 s.1)]) (fun s => s.2) (fun s => c.windows.length - s.1) (0, _) ⟨Nat.zero_le _, by simp, hk0⟩ (Wk.regs (by simp)) fun s hs => ?_
    obtain ⟨k, K⟩ := s
    obtain ⟨hn, hF, hk⟩ := hs
    simp only at hn hk hF
    have hl := hc.windows
    refine aC_sound (lv := []) _ _ _ _ ?_
    simp [hS.P]
    refine aCond_dec (fun hlt => ?_) (fun hge => ?_)
    · obtain ⟨x, hx⟩ : ∃ x, c.windows[k]? = some x := ⟨c.windows[k], List.getElem?_eq_getElem hlt⟩
      rw [atW_drop hx] at hF
      have hxo := hw.2.1 x (List.mem_of_getElem? hx)
      have := hxo.start; have := hxo.len; have := hxo.fits
      have v1 : IntKind.i64.wrap (x.start + x.len) = x.start + x.len := wrap64 (by omega) (by omega)
      simp [hS.P, hx, v1]
      by_cases h1 : x.start ≤ t
      · simp [hS.P, h1, v1]
        refine aCond_dec (fun h2 => ?_) (fun h2 => ?_)
        · rw [if_pos ⟨h1, h2⟩] at hF
          simp [hS.P]
          have hE' : atErr c t = .none := by rw [hE, ← hF]; rfl
          exact fin .none _ (put_keeps (keepsNx hk) hk) hE' (by simp [atAns, hE', ← hF])
        · rw [if_neg (by omega)] at hF
          simp [hS.P]
          exact ⟨k + 1, _, ⟨hlt, hF, put_keeps (keepsNx hk) hk⟩, by omega, Wk.regs (by simp [wrap1 (n := k) (by omega)])⟩
      · rw [if_neg (by omega)] at hF
        simp [hS.P, h1]
        exact ⟨k + 1, _, ⟨hlt, hF, put_keeps (keepsNx hk) hk⟩, by omega, Wk.regs (by simp [wrap1 (n := k) (by omega)])⟩
    · obtain rfl : k = c.windows.length := by omega
      simp [atW] at hF
      simp [hS.P]
      rw [aC_draw (hc := by kernel_rfl)]
      simp [hS.P, hS.e17]
      have hE' : atErr c t = .bare 17 := by rw [hE, ← hF]; rfl
      exact fin (.bare 17) 0 hk hE' (by simp [atAns, hE'])
  · obtain ⟨T, v, hT⟩ := encErr_iface he
    simp [hS.P, hT]
    rw [aC_draw (hc := by kernel_rfl)]
    simp [hS.P, hS.e8]
    have hE : atErr c t = .bare 8 := by simp [atErr, he]
    exact fin (.bare 8) 0 hk0 hE (by simp [atAns, hE])
end Go.Proofs.YtndoembhbfiokaaGreatDoor.Am
set_option linter.unusedVariables false
set_option linter.unusedSimpArgs false
namespace Go.Proofs.YtndoembhbfiokaaGreatDoor.Am
open Go.RowKit Go.Proofs

/-! ### Windows in order: plain laws -/
theorem Asc.start_ge : ∀ {l : List WinD} {e : Int}, Asc l e → (∀ w ∈ l, 1 ≤ w.len) → ∀ w ∈ l, e ≤ w.start
  | [], _, _, _, _, h => by cases h
  | a :: l, e, h, hl, w, hw => by
    rcases List.mem_cons.1 hw with rfl | hw
    · exact h.1
    · have h1 := Asc.start_ge h.2 (fun x hx => hl x (List.mem_cons_of_mem _ hx)) w hw
      have h2 := h.1
      have h3 := hl a (List.mem_cons_self ..)
      omega
theorem Asc.mono {l : List WinD} {e e' : Int} (h : Asc l e) (he : e' ≤ e) : Asc l e' := by
  cases l with
  | nil => trivial
  | cons w l => exact ⟨by have := h.1; omega, h.2⟩
theorem Asc.filter (p : WinD → Bool) : ∀ {l : List WinD} {e : Int}, Asc l e → (∀ w ∈ l, 1 ≤ w.len) → Asc (l.filter p) e
  | [], _, _, _ => trivial
  | a :: l, e, h, hl => by
    have ih := Asc.filter p h.2 (fun x hx => hl x (List.mem_cons_of_mem _ hx))
    have h1 := h.1
    have h3 := hl a (List.mem_cons_self ..)
    rw [List.filter_cons]
    split
    · exact ⟨h.1, ih⟩
    · exact ih.mono (by omega)
theorem Asc.drop {l : List WinD} {n : Nat} {w : WinD} (h : l[n]? = some w) : ∀ {e : Int}, Asc l e → Asc (l.drop (n + 1)) (w.start + w.len) := by
  induction n generalizing l with
  | zero =>
    intro e ha
    cases l with
    | nil => simp at h
    | cons a l => simp at h; subst h; exact ha.2
  | succ n ih =>
    intro e ha
    cases l with
    | nil => simp at h
    | cons a l => exact ih (l := l) (by simpa using h) ha.2
theorem winsOf_asc {c : ConfD} (h : confE c = .none) (n : Int) : Asc (winsOf c n) 0 ∧ (∀ w ∈ winsOf c n, WinOK c w ∧ w.part = n) ∧ (winsOf c n).length ≤ 32 := by
  have hw := conf_windows h
  refine ⟨hw.2.2.1.filter _ fun w hw' => (hw.2.1 w hw').len, fun w hw' => ?_, Nat.le_trans (List.length_filter_le _ _) hw.1⟩
  obtain ⟨h1, h2⟩ := List.mem_filter.1 hw'
  exact ⟨hw.2.1 w h1, by simpa using h2⟩
/-- Next from the end of the window before. -/
theorem nextW_at : ∀ {l : List WinD} {e t : Int}, Asc l e → t ≤ e → (∀ w ∈ l, 1 ≤ w.len) → nextW l t = l.head?.map fun w => w.start
  | [], _, _, _, _, _ => rfl
  | w :: l, e, t, h, ht, hl => by
    have h1 := h.1
    have h2 := hl w (List.mem_cons_self ..)
    simp only [nextW, List.head?_cons, Option.map_some]
    rw [if_pos (by omega)]
    by_cases h3 : t < w.start
    · rw [if_pos h3]
    · rw [if_neg h3]; congr 1; omega
/-- Next skips windows that are over. -/
theorem nextW_skip (t : Int) : ∀ (n : Nat) (l : List WinD), (∀ j w, j < n → l[j]? = some w → w.start + w.len ≤ t) → nextW l t = nextW (l.drop n) t
  | 0, l, _ => rfl
  | n + 1, [], _ => rfl
  | n + 1, w :: l, h => by
    have h1 := h 0 w (by omega) rfl
    rw [nextW, if_neg (by omega), List.drop_succ_cons]
    exact nextW_skip t n l fun j x hj hx => h (j + 1) x (by omega) (by simpa using hx)
theorem Asc.ends {l : List WinD} {e : Int} (h : Asc l e) (hl : ∀ w ∈ l, 1 ≤ w.len) : ∀ {i j : Nat} {w v : WinD}, i < j → l[i]? = some w → l[j]? = some v → w.start + w.len ≤ v.start := by
  intro i j w v hij hi hj
  have h1 := Asc.drop hi h
  have h2 : v ∈ l.drop (i + 1) := by
    have : (l.drop (i + 1))[j - (i + 1)]? = some v := by rw [List.getElem?_drop, show i + 1 + (j - (i + 1)) = j by omega]; exact hj
    exact List.mem_of_getElem? this
  exact h1.start_ge (fun x hx => hl x (List.mem_of_mem_drop hx)) v h2
/-- The end of the n-th window, 0 before the first. -/
def endOf (l : List WinD) : Nat → Int
  | 0 => 0
  | n + 1 => ((l[n]?).map fun w => w.start + w.len).getD 0
theorem nextW_walk {l : List WinD} (h : Asc l 0) (hl : ∀ w ∈ l, 1 ≤ w.len ∧ 0 ≤ w.start) {n : Nat} (hn : n ≤ l.length) : nextW l (endOf l n) = (l[n]?).map fun w => w.start := by
  have hl1 : ∀ w ∈ l, 1 ≤ w.len := fun w hw => (hl w hw).1
  cases n with
  | zero =>
    rw [show endOf l 0 = 0 from rfl, nextW_at h (Int.le_refl 0) hl1]
    cases l <;> rfl
  | succ n =>
    obtain ⟨w, hw⟩ : ∃ w, l[n]? = some w := ⟨l[n], List.getElem?_eq_getElem (by omega)⟩
    have he : endOf l (n + 1) = w.start + w.len := by simp [endOf, hw]
    rw [he, nextW_skip _ (n + 1) l (fun j v hj hv => ?_), nextW_at (Asc.drop hw h) (Int.le_refl _) (fun x hx => hl1 x (List.mem_of_mem_drop hx))]
    · rw [List.head?_drop]
    · rcases Nat.lt_or_ge j n with h1 | h1
      · have := h.ends hl1 h1 hv hw
        have h2 := hl w (List.mem_of_getElem? hw)
        omega
      · obtain rfl : j = n := by omega
        rw [hv] at hw; obtain rfl := Option.some.inj hw
        exact Int.le_refl _
/-- At a tick of its own an owner's next tick is that tick. -/
theorem nextW_own {t p : Int} : ∀ {l : List WinD} {e : Int}, Asc l e → (∀ w ∈ l, 1 ≤ w.len) → atW l t = some p → nextW (l.filter fun w => decide (w.part = p)) t = some t
  | [], _, _, _, h => by simp [atW] at h
  | w :: l, e, ha, hl, h => by
    have hl' : ∀ x ∈ l, 1 ≤ x.len := fun x hx => hl x (List.mem_cons_of_mem _ hx)
    simp only [atW] at h
    split at h
    · rename_i hc
      obtain rfl := Option.some.inj h
      rw [List.filter_cons, if_pos (by simp), nextW, if_pos hc.2, if_neg (by omega)]
    · rename_i hc
      have ih := nextW_own ha.2 hl' h
      rw [List.filter_cons]
      split
      · -- the window is over: a later one holds the tick
        have hge : w.start + w.len ≤ t := by
          have : ∀ (l : List WinD) (e : Int), Asc l e → (∀ x ∈ l, 1 ≤ x.len) → atW l t = some p → e ≤ t := by
            intro l
            induction l with
            | nil => intro e _ _ h; simp [atW] at h
            | cons x l ih =>
              intro e ha hl h
              simp only [atW] at h
              split at h
              · rename_i hc; have := ha.1; omega
              · have h1 := ih _ ha.2 (fun y hy => hl y (List.mem_cons_of_mem _ hy)) h
                have h2 := ha.1
                have h3 := hl x (List.mem_cons_self ..)
                omega
          exact this l _ ha.2 hl' h
        rw [nextW, if_neg (by omega)]; exact ih
      · exact ih
/-! ### All owners' ticks -/
def spL (l : List WinD) : Nat → Int
  | 0 => 0
  | n + 1 => spL l n + sumW (l.filter fun w => decide (w.part = (n : Int) - 1))
theorem sumW_nil : sumW [] = 0 := rfl
theorem sumW_cons (w : WinD) (l : List WinD) : sumW (w :: l) = w.len + sumW l := by simp [sumW]
theorem spL_nil (n : Nat) : spL [] n = 0 := by
  induction n with
  | zero => rfl
  | succ n ih => simp [spL, ih, sumW]
theorem spL_cons (w : WinD) (l : List WinD) (hp : -1 ≤ w.part) (n : Nat) : spL (w :: l) n = spL l n + if w.part < (n : Int) - 1 then w.len else 0 := by
  induction n with
  | zero => simp only [spL]; rw [if_neg (by omega)]; rfl
  | succ n ih =>
    simp only [spL, ih, List.filter_cons]
    by_cases h1 : w.part < (n : Int) - 1
    · rw [if_pos h1, if_neg (by simp; omega), if_pos (by omega)]; omega
    · rw [if_neg h1]
      by_cases h2 : w.part = (n : Int) - 1
      · rw [if_pos (by simp [h2]), if_pos (by omega), sumW_cons]; omega
      · rw [if_neg (by simp [h2]), if_neg (by omega)]; omega
theorem spL_all : ∀ (l : List WinD) (m : Nat), (∀ w ∈ l, -1 ≤ w.part ∧ w.part < m) → spL l (m + 1) = sumW l
  | [], m, _ => by rw [spL_nil]; rfl
  | w :: l, m, h => by
    have h1 := h w (List.mem_cons_self ..)
    rw [spL_cons w l h1.1, spL_all l m (fun x hx => h x (List.mem_cons_of_mem _ hx)), if_pos (by omega), sumW_cons]; omega
theorem spL_bound : ∀ (l : List WinD) (n : Nat), (∀ w ∈ l, -1 ≤ w.part ∧ 0 ≤ w.len) → 0 ≤ spL l n ∧ spL l n ≤ sumW l
  | [], n, _ => by rw [spL_nil]; simp [sumW]
  | w :: l, n, h => by
    have h1 := h w (List.mem_cons_self ..)
    have h2 := spL_bound l n fun x hx => h x (List.mem_cons_of_mem _ hx)
    rw [spL_cons w l h1.1, sumW_cons]
    split <;> omega
/-! ### Ticks that are nobody's -/
def nob (l : List WinD) (t : Nat) : Bool := (atW l t).isNone
theorem count_between (s n T : Nat) (h : s + n ≤ T) : (List.range T).countP (fun t => decide (s ≤ t ∧ t < s + n)) = n := by
  induction T generalizing n with
  | zero => simp; omega
  | succ T ih =>
    rw [List.range_succ, List.countP_append]
    rcases Nat.lt_or_ge T (s + n) with h1 | h1
    · cases n with
      | zero =>
        rw [← List.countP_append, List.countP_eq_zero]
        intro a _
        simp <;> omega
      | succ n =>
        have e : (List.range T).countP (fun t => decide (s ≤ t ∧ t < s + (n + 1))) = (List.range T).countP (fun t => decide (s ≤ t ∧ t < s + n)) := by
          apply List.countP_congr
          intro t ht
          have := List.mem_range.1 ht
          simp; omega
        rw [e, ih n (by omega)]
        simp; omega
    · rw [ih n h1]
      simp <;> omega
theorem countP_split {A : Type} (p q r : A → Bool) (h : ∀ a, p a = (q a || r a) ∧ (q a && r a) = false) : ∀ l : List A, l.countP p = l.countP q + l.countP r
  | [] => rfl
  | a :: l => by
    have ih := countP_split p q r h l
    obtain ⟨h1, h2⟩ := h a
    simp only [List.countP_cons, ih, h1]
    cases hq : q a <;> cases hr : r a <;> simp [hq, hr] at h2 ⊢ <;> omega
theorem atW_before {t : Int} : ∀ {l : List WinD} {e : Int}, Asc l e → (∀ w ∈ l, 1 ≤ w.len) → t < e → atW l t = none
  | [], _, _, _, _ => rfl
  | w :: l, e, ha, hl, ht => by
    have h1 := ha.1
    have h2 := hl w (List.mem_cons_self ..)
    rw [atW, if_neg (by omega)]
    exact atW_before ha.2 (fun x hx => hl x (List.mem_cons_of_mem _ hx)) (by omega)
theorem nob_count {T : Nat} : ∀ {l : List WinD} {e : Int}, Asc l e → (∀ w ∈ l, 1 ≤ w.len ∧ 0 ≤ w.start ∧ w.start + w.len ≤ T) → (((List.range T).countP (nob l) : Nat) : Int) = T - sumW l
  | [], _, _, _ => by
    have : (List.range T).countP (nob []) = T := by
      rw [List.countP_eq_length.2]; · simp
      intro a _; rfl
    rw [this, sumW_nil]; omega
  | w :: l, e, ha, hl => by
    have h2 := hl w (List.mem_cons_self ..)
    have hl' : ∀ x ∈ l, 1 ≤ x.len ∧ 0 ≤ x.start ∧ x.start + x.len ≤ T := fun x hx => hl x (List.mem_cons_of_mem _ hx)
    have ih := nob_count (T := T) ha.2 hl'
    obtain ⟨s, hs⟩ := Int.eq_ofNat_of_zero_le h2.2.1
    obtain ⟨n, hn⟩ := Int.eq_ofNat_of_zero_le (show 0 ≤ w.len by omega)
    have hb := count_between s n T (by omega)
    have hsplit := countP_split (nob l) (nob (w :: l)) (fun t => decide (s ≤ t ∧ t < s + n)) (fun t => by
      by_cases hin : w.start ≤ (t : Int) ∧ (t : Int) < w.start + w.len
      · have e1 : atW l (t : Int) = none := atW_before ha.2 (fun x hx => (hl' x hx).1) hin.2
        have e2 : decide (s ≤ t ∧ t < s + n) = true := by simp; omega
        simp only [nob, atW, if_pos hin, e1, e2]; simp
      · have e2 : decide (s ≤ t ∧ t < s + n) = false := by simp; omega
        simp only [nob, atW, if_neg hin, e2]; simp) (List.range T)
    rw [sumW_cons]; omega
end Go.Proofs.YtndoembhbfiokaaGreatDoor.Am
set_option linter.unusedVariables false
set_option linter.unusedSimpArgs false
namespace Go.Proofs.YtndoembhbfiokaaGreatDoor.Am
open Go.RowKit Go.Proofs

end Go.Proofs.YtndoembhbfiokaaGreatDoor.Am
set_option linter.unusedVariables false
set_option linter.unusedSimpArgs false
namespace Go.Proofs.YtndoembhbfiokaaGreatDoor.Am
open Go.RowKit Go.Proofs

def uf (l : List WinD) (T t : Nat) : Nat := ((List.range T).drop t).countP (nob l)
theorem uf_step (l : List WinD) {T t : Nat} (h : t < T) : uf l T t = uf l T (t + 1) + if nob l t = true then 1 else 0 := by
  have hl : t < (List.range T).length := by simpa using h
  unfold uf
  rw [List.drop_eq_getElem_cons hl, List.countP_cons]
  simp
theorem uf_le (l : List WinD) (T t : Nat) {st : Nat} (h : 1 ≤ st) : uf l T (t + st) ≤ uf l T (t + 1) := by
  unfold uf
  have : (List.range T).drop (t + st) = ((List.range T).drop (t + 1)).drop (st - 1) := by rw [List.drop_drop]; congr 1; omega
  rw [this]
  exact List.Sublist.countP_le (List.drop_sublist _ _)
end Go.Proofs.YtndoembhbfiokaaGreatDoor.Am
set_option linter.unusedVariables false
set_option linter.unusedSimpArgs false
namespace Go.Proofs.YtndoembhbfiokaaGreatDoor.Am
open Go.RowKit Go.Proofs

instance : DecidableEq WinD := fun a b => decidable_of_iff (a.part = b.part ∧ a.start = b.start ∧ a.len = b.len) (by cases a; cases b; simp)
instance : DecidableEq LinkD := fun a b => decidable_of_iff (a.src = b.src ∧ a.out = b.out ∧ a.dst = b.dst ∧ a.inn = b.inn) (by cases a; cases b; simp)
instance : DecidableEq PageD := fun a b => decidable_of_iff (a.rights = b.rights ∧ a.init = b.init) (by cases a; cases b; simp)
instance : DecidableEq ProcD := fun a b => decidable_of_iff (a.entry = b.entry ∧ a.prio = b.prio ∧ a.auto = b.auto) (by cases a; cases b; simp)
instance : DecidableEq PortD := fun a b => decidable_of_iff (a.kind = b.kind ∧ a.size = b.size ∧ a.depth = b.depth ∧ a.refresh = b.refresh) (by cases a; cases b; simp)
end Go.Proofs.YtndoembhbfiokaaGreatDoor.Am
set_option linter.unusedVariables false
set_option linter.unusedSimpArgs false
namespace Go.Proofs.YtndoembhbfiokaaGreatDoor.Am
open Go.RowKit Go.Proofs

theorem sameInts_spec {X : Ctx} (hS : Sent X) (a b : List Int) (ha : a.length ≤ 1073741824) (hb : b.length ≤ 1073741824) : ACalc X 42 [.fsl (a.map encInt), .fsl (b.map encInt)] (.bool (decide (a = b))) := by
  intro H
  refine acalls' (N := 26) (rs := [.tmp 4]) [] (by rw [hS.P]; exact Tryz.func42) rfl rfl rfl (by decide) (by simp) ?_
  simp [entryR, hS.P]
  refine aCond_mk (fun hl => ?_) (fun hl => ?_)
  · simp at hl
    simp
    exact Leave.data (keeps_refl _) (by simp) ⟨by simp; rintro rfl; exact hl rfl, rfl⟩
  simp at hl
  have hl : a.length = b.length := by omega
  simp
  refine AWp.loop (S := Nat) (fun n => n ≤ a.length ∧ a.take n = b.take n)
    (fun n => [(0, .fsl (a.map encInt)), (1, .fsl (b.map encInt)), (5, .int .i64 n)]) (fun _ => H) (fun n => a.length - n) 0 ⟨Nat.zero_le _, by simp⟩ (Wk.regs (by simp)) fun n hs => ?_
  obtain ⟨hn, hF⟩ := hs
  refine aC_sound (lv := []) _ _ _ _ ?_
  simp [hS.P]
  refine aCond_dec (fun hlt => ?_) (fun hge => ?_)
  · obtain ⟨x, hx⟩ : ∃ x, a[n]? = some x := ⟨a[n], List.getElem?_eq_getElem hlt⟩
    obtain ⟨y, hy⟩ : ∃ y, b[n]? = some y := ⟨b[n], List.getElem?_eq_getElem (by omega)⟩
    simp [hS.P]
    rw [aC_draw (hc := by kernel_rfl)]
    simp [hS.P, hx, hy, allEq, eqK, encInt]
    by_cases h : x = y
    · subst h
      simp [hS.P]
      refine ⟨n + 1, ⟨hlt, by simp [List.take_add_one, hF, hx, hy]⟩, by omega, Wk.regs (by simp [wrap1 (n := n) (by omega)])⟩
    · have hab : ¬ a = b := fun e => by subst e; rw [hx] at hy; cases hy; exact h rfl
      simp [h]
      exact Leave.data (keeps_refl _) (by simp) ⟨by simp [hab], rfl⟩
  · obtain rfl : n = a.length := by omega
    simp
    exact Leave.data (keeps_refl _) (by simp) ⟨by rw [List.take_length, hl, List.take_length] at hF; simp [hF], rfl⟩
theorem sameWindows_spec {X : Ctx} (hS : Sent X) (a b : List WinD) (ha : a.length ≤ 1073741824) (hb : b.length ≤ 1073741824) : ACalc X 39 [.fsl (a.map encWin), .fsl (b.map encWin)] (.bool (decide (a = b))) := by
  intro H
  refine acalls' (N := 26) (rs := [.tmp 4]) [] (by rw [hS.P]; exact Tryz.func39) rfl rfl rfl (by decide) (by simp) ?_
  simp [entryR, hS.P]
  refine aCond_mk (fun hl => ?_) (fun hl => ?_)
  · simp at hl
    simp
    exact Leave.data (keeps_refl _) (by simp) ⟨by simp; rintro rfl; exact hl rfl, rfl⟩
  simp at hl
  have hl : a.length = b.length := by omega
  simp
  refine AWp.loop (S := Nat) (fun n => n ≤ a.length ∧ a.take n = b.take n)
    (fun n => [(0, .fsl (a.map encWin)), (1, .fsl (b.map encWin)), (5, .int .i64 n)]) (fun _ => H) (fun n => a.length - n) 0 ⟨Nat.zero_le _, by simp⟩ (Wk.regs (by simp)) fun n hs => ?_
  obtain ⟨hn, hF⟩ := hs
  refine aC_sound (lv := []) _ _ _ _ ?_
  simp [hS.P]
  refine aCond_dec (fun hlt => ?_) (fun hge => ?_)
  · obtain ⟨x, hx⟩ : ∃ x, a[n]? = some x := ⟨a[n], List.getElem?_eq_getElem hlt⟩
    obtain ⟨y, hy⟩ : ∃ y, b[n]? = some y := ⟨b[n], List.getElem?_eq_getElem (by omega)⟩
    simp [hS.P]
    rw [aC_draw (hc := by kernel_rfl)]
    simp [hS.P, hx, hy, allEq, eqK]
    refine aCond_mk (fun hc => ?_) (fun hc => ?_)
    · have h : x ≠ y := by rintro rfl; simp at hc
      have hab : ¬ a = b := fun e => by subst e; rw [hx] at hy; cases hy; exact h rfl
      simp
      exact Leave.data (keeps_refl _) (by simp) ⟨by simp [hab], rfl⟩
    · have h : x = y := by cases x; cases y; simp at hc; simp [hc]
      subst h
      simp [hS.P]
      exact ⟨n + 1, ⟨hlt, by simp [List.take_add_one, hF, hx, hy]⟩, by omega, Wk.regs (by simp [wrap1 (n := n) (by omega)])⟩
  · obtain rfl : n = a.length := by omega
    simp
    exact Leave.data (keeps_refl _) (by simp) ⟨by rw [List.take_length, hl, List.take_length] at hF; simp [hF], rfl⟩
end Go.Proofs.YtndoembhbfiokaaGreatDoor.Am
set_option linter.unusedVariables false
set_option linter.unusedSimpArgs false
namespace Go.Proofs.YtndoembhbfiokaaGreatDoor.Am
open Go.RowKit Go.Proofs

def covW (w : WinD) (t : Int) : Bool := decide (w.start ≤ t ∧ t < w.start + w.len)
def lastW (l : List WinD) (t : Int) (a : Int) : Int := l.foldl (fun a w => if covW w t then w.part else a) a
theorem lastW_take {l : List WinD} {n : Nat} {w : WinD} (h : l[n]? = some w) (t a : Int) : lastW (l.take (n + 1)) t a = if covW w t then w.part else lastW (l.take n) t a := by
  simp [lastW, List.take_add_one, h]
theorem lastW_eq {t : Int} : ∀ {l : List WinD} {e : Int} (a : Int), Asc l e → (∀ w ∈ l, 1 ≤ w.len) → lastW l t a = (atW l t).getD a
  | [], _, _, _, _ => rfl
  | w :: l, e, a, ha, hl => by
    have ih := fun b => lastW_eq (t := t) (l := l) b ha.2 fun x hx => hl x (List.mem_cons_of_mem _ hx)
    show lastW l t (if covW w t then w.part else a) = _
    rw [ih, atW]
    by_cases h : w.start ≤ t ∧ t < w.start + w.len
    · rw [if_pos h, if_pos (by simp [covW, h]), atW_before ha.2 (fun x hx => hl x (List.mem_cons_of_mem _ hx)) h.2]; rfl
    · rw [if_neg h, if_neg (by simpa [covW] using h)]
/-- A row of numbers, told by a function. -/
def rowF (g : Nat → Int) (T : Nat) : List AV := (List.range T).map fun t => .int .i64 (g t)
@[simp] theorem rowF_len (g : Nat → Int) (T : Nat) : (rowF g T).length = T := by simp [rowF]
theorem rowF_get (g : Nat → Int) {T n : Nat} (h : n < T) : (rowF g T)[n]? = some (.int .i64 (g n)) := by simp [rowF, h]
@[simp] theorem rowF_getE (g : Nat → Int) (T n : Nat) (h : n < (rowF g T).length) : (rowF g T)[n] = .int .i64 (g n) := by simp [rowF]
theorem rowF_zero (T : Nat) : List.replicate T (AV.int .i64 0) = rowF (fun _ => 0) T := by
  unfold rowF
  apply List.ext_getElem <;> simp
theorem rowF_congr {g g' : Nat → Int} {T : Nat} (h : ∀ t, t < T → g t = g' t) : rowF g T = rowF g' T := by
  unfold rowF
  refine List.map_congr_left fun t ht => ?_
  rw [h t (List.mem_range.1 ht)]
theorem rowF_set (g : Nat → Int) (T n : Nat) (v : Int) : (rowF g T).set n (.int .i64 v) = rowF (fun t => if t = n then v else g t) T := by
  apply List.ext_getElem?
  intro t
  rw [List.getElem?_set]
  by_cases ht : t < T
  · rw [rowF_get _ ht, rowF_get _ ht]
    by_cases e : n = t
    · subst e; simp [ht]
    · rw [if_neg e, if_neg (fun h => e h.symm)]
  · have h1 : (rowF g T)[t]? = none := List.getElem?_eq_none (by simp; omega)
    have h2 : (rowF (fun t => if t = n then v else g t) T)[t]? = none := List.getElem?_eq_none (by simp; omega)
    rw [h1, h2]; split <;> simp; omega
def ownW (c : ConfD) (t : Nat) : Int := (atW c.windows t).getD (-2)
theorem rOwners_spec {X : Ctx} (hS : Sent X) (c : ConfD) (hc : c.Small) (he : confE c = .none) : ACalc X 77 [encConf c] (.fsl (rowF (ownW c) c.ticks.toNat)) := by
  intro H
  refine acalls' (N := 50) (rs := [.tmp 2]) [9] (by rw [hS.P]; exact Tryz.func77) rfl rfl rfl (by decide) (by simp) ?_
  obtain ⟨hw1, hw2, hw3, hw4, hw5⟩ := conf_windows he
  have f1 : H.get (H.nx + 1) = .free := AH.free_add H 1
  have hT : ((c.ticks.toNat : Nat) : Int) = c.ticks := by omega
  generalize hTn : c.ticks.toNat = T at hT ⊢
  simp [entryR, hS.P]
  refine aIf_mk ⟨by omega, by omega, by omega⟩ ?_
  simp [hS.P, hTn]
  rw [rowF_zero]
  refine AWp.loop (S := Nat × AH) (fun s => s.1 ≤ T ∧ s.2.get H.nx = .row [encConf c] 6 0 ∧ s.2.get (H.nx + 1) = .row (rowF (fun t => if t < s.1 then ownW c t else 0) T) 1 0 ∧ ∀ i, H.get i ≠ .free → s.2.get i = H.get i)
    (fun s => [(1, .ptr H.nx 0 0 0), (3, .sl (H.nx + 1) 0 0 T), (4, .int .i64 s.1)]) (fun s => s.2) (fun s => T - s.1) (0, (H.put H.nx (.row [encConf c] 6 0)).put (H.nx + 1) (.row (rowF (fun _ => 0) T) 1 0))
    ⟨Nat.zero_le _, by simp, by simp, put_keeps f1 (put_keeps (by simp) (keeps_refl H))⟩ (Wk.regs (by simp)) fun s hs => ?_
  obtain ⟨n, K⟩ := s
  obtain ⟨hn, g0, g1, hk⟩ := hs
  simp only at hn g0 g1 hk
  refine aC_sound (lv := []) _ _ _ _ ?_
  simp [hS.P, g0]
  refine aCond_dec (fun hlt => ?_) (fun hge => ?_)
  · have hlt' : n < T := by omega
    have n0 := AH.lt_nx (AH.ne_free g0)
    have n1 := AH.lt_nx (AH.ne_free g1)
    simp [hS.P, g0, g1, hlt', rowF_set]
    refine AWp.loop (S := Nat × AH) (fun s => s.1 ≤ c.windows.length ∧ s.2.get H.nx = .row [encConf c] 6 0 ∧ s.2.get (H.nx + 1) = .row (rowF (fun t => if t < n then ownW c t else if t = n then lastW (c.windows.take s.1) n (-2) else 0) T) 1 0 ∧ ∀ i, H.get i ≠ .free → s.2.get i = H.get i)
      (fun s => [(1, .ptr H.nx 0 0 0), (3, .sl (H.nx + 1) 0 0 T), (4, .int .i64 n), (5, .int .i64 s.1)]) (fun s => s.2) (fun s => c.windows.length - s.1) (0, K.put (H.nx + 1) (.row (rowF (fun t => if t = n then -2 else if t < n then ownW c t else 0) T) 1 0))
      ⟨Nat.zero_le _, by simp [g0], ?_, put_keeps f1 hk⟩ (Wk.regs (by simp)) fun s hs => ?_
    · rw [AH.put_same]
      congr 1
      refine rowF_congr fun t _ => ?_
      by_cases e : t = n
      · subst e; simp [lastW]
      · simp [e]
    clear g0 g1 hk n0 n1 K
    obtain ⟨j, K⟩ := s
    obtain ⟨hj, g0, g1, hk⟩ := hs
    simp only at hj g0 g1 hk
    refine aC_sound (lv := []) _ _ _ _ ?_
    simp [hS.P, g0]
    refine aCond_dec (fun hjl => ?_) (fun hjg => ?_)
    · obtain ⟨x, hx⟩ : ∃ x, c.windows[j]? = some x := ⟨c.windows[j], List.getElem?_eq_getElem hjl⟩
      have hwx := hw2 x (List.mem_of_getElem? hx)
      have a1 := hwx.start; have a2 := hwx.len; have a3 := hwx.fits; have a4 := hc.windows
      have wv : IntKind.i64.wrap (x.start + x.len) = x.start + x.len := wrap64 (by omega) (by omega)
      have n0 := AH.lt_nx (AH.ne_free g0)
      have n1 := AH.lt_nx (AH.ne_free g1)
      have c0 : ¬ H.nx = K.nx := by omega
      have c1 : ¬ H.nx + 1 = K.nx := by omega
      have c2 : ¬ K.nx = H.nx + 1 := by omega
      have c3 : ¬ K.nx = H.nx := by omega
      have hst := lastW_take hx n (-2)
      by_cases e1 : x.start ≤ n
      · by_cases e2 : (n : Int) < x.start + x.len
        · simp [hS.P, g0, g1, hx, wv, e1, e2, hlt', rowF_set, c0, c1, c2, c3]
          refine ⟨j + 1, _, ⟨hjl, ?_, ?_, ?_⟩, by omega, Wk.regs (by simp [wrap1 (n := j) (by omega)])⟩
          · simp [g0, c0, c1, c2, c3]
          · rw [AH.put_same]
            congr 1
            refine rowF_congr fun t _ => ?_
            by_cases e : t = n
            · subst e; simp [hst, covW, e1, e2]
            · simp [e]
          · exact put_keeps f1 (put_keeps (keepsNx hk) hk)
        · simp [hS.P, g0, g1, hx, wv, e1, e2, hlt', c0, c1, c2, c3]
          refine ⟨j + 1, _, ⟨hjl, ?_, ?_, ?_⟩, by omega, Wk.regs (by simp [wrap1 (n := j) (by omega)])⟩
          · simp [g0, c0, c1, c2, c3]
          · rw [AH.put_ne _ _ c1, g1, hst]; simp [covW, e2]
          · exact put_keeps (keepsNx hk) hk
      · simp [hS.P, g0, g1, hx, wv, e1, hlt', c0, c1, c2, c3]
        refine ⟨j + 1, _, ⟨hjl, ?_, ?_, ?_⟩, by omega, Wk.regs (by simp [wrap1 (n := j) (by omega)])⟩
        · simp [g0, c0, c1, c2, c3]
        · rw [AH.put_ne _ _ c1, g1, hst]; simp [covW, e1]
        · exact put_keeps (keepsNx hk) hk
    · obtain rfl : j = c.windows.length := by omega
      rw [List.take_length] at g1
      simp [hS.P]
      refine ⟨n + 1, K, ⟨hlt', g0, ?_, hk⟩, by omega, Wk.regs (by simp [wrap1 (n := n) (by omega)])⟩
      rw [g1]
      congr 1
      refine rowF_congr fun t _ => ?_
      by_cases e : t = n
      · subst e
        rw [if_neg (by omega), if_pos rfl, if_pos (by omega), lastW_eq _ hw3 fun w hw => (hw2 w hw).len]
        rfl
      · by_cases e2 : t < n
        · rw [if_pos e2, if_pos (by omega)]
        · rw [if_neg e2, if_neg e, if_neg (by omega)]
  · obtain rfl : n = T := by omega
    simp [hS.P]
    refine Leave.sl g1 (by simp) ?_
    refine Leave.data (put_keeps f1 hk) ?_ ⟨?_, rfl⟩
    · rw [data_fsl]; intro x hx c' hc'
      obtain ⟨t, _, rfl⟩ := List.mem_map.1 hx
      simp [AV.cells] at hc'; subst hc'; simp
    · congr 1
      exact rowF_congr fun t ht => by rw [if_pos ht]
end Go.Proofs.YtndoembhbfiokaaGreatDoor.Am
set_option linter.unusedVariables false
set_option linter.unusedSimpArgs false
namespace Go.Proofs.YtndoembhbfiokaaGreatDoor.Am
open Go.RowKit Go.Proofs

theorem own_count {T : Nat} (p : Int) : ∀ {l : List WinD} {e : Int}, Asc l e → (∀ w ∈ l, 1 ≤ w.len ∧ 0 ≤ w.start ∧ w.start + w.len ≤ T) →
    (((List.range T).countP (fun t : Nat => decide (atW l t = some p)) : Nat) : Int) = sumW (l.filter fun w => decide (w.part = p))
  | [], _, _, _ => by
    have : (List.range T).countP (fun t : Nat => decide (atW [] t = some p)) = 0 := by
      rw [List.countP_eq_zero]; intro t _; simp [atW]
    rw [this]; rfl
  | w :: l, e, ha, hl => by
    have ih := own_count (T := T) p (l := l) ha.2 fun x hx => hl x (List.mem_cons_of_mem _ hx)
    obtain ⟨h1, h2, h3⟩ := hl w (List.mem_cons_self ..)
    have hb : ∀ t : Nat, (t : Int) < w.start + w.len → atW l t = none := fun t ht => atW_before ha.2 (fun x hx => (hl x (List.mem_cons_of_mem _ hx)).1) ht
    by_cases hp : w.part = p
    · have hs := countP_split (fun t : Nat => decide (atW (w :: l) t = some p)) (fun t => decide (w.start.toNat ≤ t ∧ t < w.start.toNat + w.len.toNat)) (fun t : Nat => decide (atW l t = some p)) (fun t => by
        by_cases hc : w.start ≤ (t : Int) ∧ (t : Int) < w.start + w.len
        · have hc' : w.start.toNat ≤ t ∧ t < w.start.toNat + w.len.toNat := by omega
          have := hb t hc.2
          simp [atW, hc, hc', hp, this]
        · have hc' : ¬ (w.start.toNat ≤ t ∧ t < w.start.toNat + w.len.toNat) := by omega
          simp only [atW, if_neg hc]
          rw [decide_eq_false hc']; simp) (List.range T)
      rw [count_between _ _ _ (by omega)] at hs
      rw [hs, List.filter_cons_of_pos (by simpa using hp), sumW_cons, ← ih]
      omega
    · have hs : (List.range T).countP (fun t : Nat => decide (atW (w :: l) t = some p)) = (List.range T).countP (fun t : Nat => decide (atW l t = some p)) := by
        refine List.countP_congr fun t _ => ?_
        by_cases hc : w.start ≤ (t : Int) ∧ (t : Int) < w.start + w.len
        · simp [atW, hc, hb t hc.2, hp]
        · simp only [atW, if_neg hc]
      rw [hs, List.filter_cons_of_neg (by simpa using hp), ← ih]
noncomputable def cntO (c : ConfD) (n : Int) : Nat := (List.range c.ticks.toNat).countP fun t => decide (ownW c t = n)
theorem win_hyp {c : ConfD} (he : confE c = .none) : ∀ w ∈ c.windows, 1 ≤ w.len ∧ 0 ≤ w.start ∧ w.start + w.len ≤ (c.ticks.toNat : Int) := fun w hw => by
  obtain ⟨hw1, hw2, hw3, hw4, hw5⟩ := conf_windows he
  have := hw2 w hw
  have h1 := this.len; have h2 := this.start; have h3 := this.fits
  omega
theorem own_part {c : ConfD} (he : confE c = .none) {t p : Int} (h : atW c.windows t = some p) : -1 ≤ p := by
  have hw := (conf_windows he).2.1
  generalize c.windows = l at h hw
  induction l with
  | nil => simp [atW] at h
  | cons w l ih =>
    rw [atW] at h
    split at h
    · cases h; exact (hw w (List.mem_cons_self ..)).part.1
    · exact ih h fun x hx => hw x (List.mem_cons_of_mem _ hx)
theorem cnt_own {c : ConfD} (he : confE c = .none) {n : Int} (hn : -1 ≤ n) : ((cntO c n : Nat) : Int) = sumW (winsOf c n) := by
  rw [winsOf, ← own_count n (T := c.ticks.toNat) (conf_windows he).2.2.1 (win_hyp he)]
  congr 1
  refine List.countP_congr fun t _ => ?_
  unfold ownW
  cases h : atW c.windows (t : Int) with
  | none => simp; omega
  | some p => simp
theorem cnt_free {c : ConfD} (he : confE c = .none) : ((cntO c (-2) : Nat) : Int) = c.ticks - sumW c.windows := by
  have hw := conf_windows he
  have := nob_count (T := c.ticks.toNat) hw.2.2.1 (win_hyp he)
  rw [show ((c.ticks.toNat : Nat) : Int) = c.ticks by omega] at this
  rw [← this]
  congr 1
  refine List.countP_congr fun t _ => ?_
  unfold ownW nob
  cases h : atW c.windows (t : Int) with
  | none => simp
  | some p => have := own_part he h; simp; omega
theorem cnt_step (g : Nat → Bool) (n : Nat) : (List.range (n + 1)).countP g = (List.range n).countP g + if g n then 1 else 0 := by
  rw [List.range_succ, List.countP_append]; simp [List.countP_cons]
theorem rticks_spec {X : Ctx} (hS : Sent X) (c : ConfD) (hc : c.Small) (he : confE c = .none) (n : Int) : ACalc X 35 [encConf c, .int .i64 n] (.int .i64 (cntO c n)) := by
  intro H
  refine acalls' (N := 25) (rs := [.tmp 4]) [] (by rw [hS.P]; exact Tryz.func35) rfl rfl rfl (by decide) (by simp) ?_
  have hw := conf_windows he
  have hk0 : ∀ i, H.get i ≠ .free → (H.put H.nx (.row [encConf c] 6 0)).get i = H.get i := put_keeps (by simp) (keeps_refl H)
  simp [entryR, hS.P]
  refine (rOwners_spec hS c hc he).go ?_
  simp [hS.P]
  generalize hT : c.ticks.toNat = T
  have hTb : T ≤ 10000 := by omega
  refine AWp.loop (S := Nat) (fun k => k ≤ T)
    (fun k => [(1, .int .i64 n), (5, .fsl (rowF (ownW c) T)), (6, .int .i64 ((List.range k).countP fun t => decide (ownW c t = n))), (7, .int .i64 k)]) (fun _ => H.put H.nx (.row [encConf c] 6 0)) (fun k => T - k) 0 (Nat.zero_le _) (Wk.regs (by simp)) fun k hk => ?_
  refine aC_sound (lv := []) _ _ _ _ ?_
  simp [hS.P]
  refine aCond_dec (fun hlt => ?_) (fun hge => ?_)
  · have hlt' : k < T := by omega
    have hg := rowF_get (ownW c) hlt'
    have hcl : (List.range k).countP (fun t => decide (ownW c t = n)) ≤ k := by simpa using List.countP_le_length (p := fun t => decide (ownW c t = n)) (l := List.range k)
    have hst := cnt_step (fun t => decide (ownW c t = n)) k
    simp [hS.P, hg]
    by_cases ho : ownW c k = n
    · simp [hS.P, ho]
      refine ⟨k + 1, by omega, by omega, Wk.regs ?_⟩
      rw [hst]
      simp [ho, wrap1 (n := k) (by omega), wrap1 (n := (List.range k).countP fun t => decide (ownW c t = n)) (by omega)]
    · simp [hS.P, ho]
      refine ⟨k + 1, by omega, by omega, Wk.regs ?_⟩
      rw [hst]
      simp [ho, wrap1 (n := k) (by omega)]
  · obtain rfl : k = T := by omega
    simp
    exact Leave.data hk0 (by simp) ⟨by rw [cntO, hT], rfl⟩
end Go.Proofs.YtndoembhbfiokaaGreatDoor.Am
set_option linter.unusedVariables false
set_option linter.unusedSimpArgs false
namespace Go.Proofs.YtndoembhbfiokaaGreatDoor.Am
open Go.RowKit Go.Proofs

theorem tup2_data (a b : Int) : AV.Data (.tup [.int .i64 a, .int .i64 b]) := by simp
theorem rIdle_spec {X : Ctx} (hS : Sent X) (c : ConfD) (hc : c.Small) : ACalc X 14 [encConf c] (.tup [.int .i64 (idleAns c), .int .i64 (idleErr c).code]) := by
  intro H
  refine acalls' (N := 9) (rs := [.tmp 2, .tmp 3]) [] (by rw [hS.P]; exact Tryz.func14) rfl rfl rfl (by decide) (by simp) ?_
  have hk0 : ∀ i, H.get i ≠ .free → (H.put H.nx (.row [encConf c] 6 0)).get i = H.get i := put_keeps (by simp) (keeps_refl H)
  simp [entryR, hS.P]
  refine (rconfGood_spec hS c hc).go ?_
  by_cases he : confE c = .none
  · simp [hS.P, he]
    refine (rticks_spec hS c hc he (-2)).go ?_
    simp [hS.P]
    exact Leave.data hk0 (by simp) ⟨by simp [idleAns, idleErr, he, cnt_free he, PE.code], rfl⟩
  · simp [hS.P, he]
    exact Leave.data hk0 (by simp) ⟨by simp [idleAns, idleErr, he, PE.code]; rfl, rfl⟩
theorem rLoad_spec {X : Ctx} (hS : Sent X) (c : ConfD) (hc : c.Small) (n : Int) : ACalc X 46 [encConf c, .int .i64 n] (.tup [.int .i64 (sumW (winAns c n)), .int .i64 (ownErr c n).code]) := by
  intro H
  refine acalls' (N := 16) (rs := [.tmp 4, .tmp 5]) [] (by rw [hS.P]; exact Tryz.func46) rfl rfl rfl (by decide) (by simp) ?_
  have hk0 : ∀ i, H.get i ≠ .free → (H.put H.nx (.row [encConf c] 6 0)).get i = H.get i := put_keeps (by simp) (keeps_refl H)
  simp [entryR, hS.P]
  refine (rconfGood_spec hS c hc).go ?_
  by_cases he : confE c = .none
  · simp [hS.P, he]
    refine (rowner_spec hS c n).go ?_
    by_cases ho : -1 ≤ n ∧ n < c.parts.length
    · have hE : ownErr c n = .none := by simp only [ownErr]; rw [if_neg (by simp [he]), if_pos ho]
      simp [hS.P, ho]
      refine (rticks_spec hS c hc he n).go ?_
      simp [hS.P]
      exact Leave.data hk0 (by simp) ⟨by simp [winAns, hE, cnt_own he ho.1, PE.code], rfl⟩
    · have hE : ownErr c n = .bare 12 := by simp only [ownErr]; rw [if_neg (by simp [he]), if_neg ho]
      simp [hS.P, ho]
      exact Leave.data hk0 (by simp) ⟨by simp [winAns, hE, PE.code, sumW]; rfl, rfl⟩
  · have hE : ownErr c n = .bare 8 := by simp only [ownErr]; rw [if_pos (by simp [he])]
    simp [hS.P, he]
    exact Leave.data hk0 (by simp) ⟨by simp [winAns, hE, PE.code, sumW]; rfl, rfl⟩
theorem rAt_spec {X : Ctx} (hS : Sent X) (c : ConfD) (hc : c.Small) (t : Int) : ACalc X 43 [encConf c, .int .i64 t] (.tup [.int .i64 (atAns c t), .int .i64 (atErr c t).code]) := by
  intro H
  refine acalls' (N := 26) (rs := [.tmp 4, .tmp 5]) [] (by rw [hS.P]; exact Tryz.func43) rfl rfl rfl (by decide) (by simp) ?_
  have hk0 : ∀ i, H.get i ≠ .free → (H.put H.nx (.row [encConf c] 6 0)).get i = H.get i := put_keeps (by simp) (keeps_refl H)
  simp [entryR, hS.P]
  refine (rconfGood_spec hS c hc).go ?_
  by_cases he : confE c = .none
  rotate_left
  · have hE : atErr c t = .bare 8 := by simp only [atErr]; rw [if_pos (by simp [he])]
    simp [hS.P, he]
    exact Leave.data hk0 (by simp) ⟨by simp [atAns, hE, PE.code]; rfl, rfl⟩
  simp [hS.P, he]
  by_cases h0 : t < 0
  · have hE : atErr c t = .bare 12 := by simp only [atErr]; rw [if_neg (by simp [he]), if_neg (by omega)]
    simp [hS.P, h0]
    exact Leave.data hk0 (by simp) ⟨by simp [atAns, hE, PE.code]; rfl, rfl⟩
  by_cases h1 : c.ticks ≤ t
  · have hE : atErr c t = .bare 12 := by simp only [atErr]; rw [if_neg (by simp [he]), if_neg (by omega)]
    simp [hS.P, h0, h1]
    exact Leave.data hk0 (by simp) ⟨by simp [atAns, hE, PE.code]; rfl, rfl⟩
  simp [hS.P, h0, h1]
  refine (rOwners_spec hS c hc he).go ?_
  obtain ⟨k, hk⟩ := Int.eq_ofNat_of_zero_le (show 0 ≤ t by omega)
  subst hk
  have hlt : k < c.ticks.toNat := by omega
  have hg := rowF_get (ownW c) hlt
  simp [hS.P, hg]
  by_cases ho : ownW c k = -2
  · have hn : atW c.windows (k : Int) = none := by
      cases h : atW c.windows (k : Int) with
      | none => rfl
      | some p => have := own_part he h; rw [ownW, h] at ho; simp at ho; omega
    have hE : atErr c k = .bare 17 := by simp only [atErr]; rw [if_neg (by simp [he]), if_pos (by omega), hn]; rfl
    simp [hS.P, ho]
    exact Leave.data hk0 (by simp) ⟨by simp [atAns, hE, PE.code]; rfl, rfl⟩
  · obtain ⟨p, hn⟩ : ∃ p, atW c.windows (k : Int) = some p := by
      cases h : atW c.windows (k : Int) with
      | none => rw [ownW, h] at ho; simp at ho
      | some p => exact ⟨p, rfl⟩
    have hE : atErr c k = .none := by simp only [atErr]; rw [if_neg (by simp [he]), if_pos (by omega), hn]; rfl
    simp [hS.P, ho]
    exact Leave.data hk0 (by simp) ⟨by simp [atAns, hE, PE.code, ownW, hn], rfl⟩
end Go.Proofs.YtndoembhbfiokaaGreatDoor.Am
set_option linter.unusedVariables false
set_option linter.unusedSimpArgs false
namespace Go.Proofs.YtndoembhbfiokaaGreatDoor.Am
open Go.RowKit Go.Proofs

theorem nextW_step {k : Int} : ∀ {m : List WinD}, (∀ w ∈ m, 1 ≤ w.len ∧ ¬ (w.start ≤ k ∧ k < w.start + w.len)) → nextW m k = nextW m (k + 1)
  | [], _ => rfl
  | w :: m, h => by
    have ih := nextW_step (k := k) (m := m) fun x hx => h x (List.mem_cons_of_mem _ hx)
    obtain ⟨h1, h2⟩ := h w (List.mem_cons_self ..)
    rw [nextW, nextW]
    by_cases e : k < w.start + w.len
    · have e1 : k < w.start := by omega
      rw [if_pos e, if_pos e1, if_pos (by omega)]
      by_cases e2 : k + 1 < w.start
      · rw [if_pos e2]
      · rw [if_neg e2]; congr 1; omega
    · rw [if_neg e, if_neg (by omega), ih]
theorem nextW_end {T : Int} : ∀ {m : List WinD}, (∀ w ∈ m, w.start + w.len ≤ T) → nextW m T = none
  | [], _ => rfl
  | w :: m, h => by
    have := h w (List.mem_cons_self ..)
    rw [nextW, if_neg (by omega)]
    exact nextW_end fun x hx => h x (List.mem_cons_of_mem _ hx)
theorem atW_mem {t : Int} {w : WinD} (hc : w.start ≤ t ∧ t < w.start + w.len) : ∀ {l : List WinD} {e : Int}, Asc l e → (∀ w ∈ l, 1 ≤ w.len) → w ∈ l → atW l t = some w.part
  | [], _, _, _, h => by cases h
  | v :: l, e, ha, hl, h => by
    rcases List.mem_cons.1 h with rfl | h
    · rw [atW, if_pos hc]
    · have := Asc.start_ge ha.2 (fun x hx => hl x (List.mem_cons_of_mem _ hx)) w h
      rw [atW, if_neg (by omega)]
      exact atW_mem hc ha.2 (fun x hx => hl x (List.mem_cons_of_mem _ hx)) h
theorem own_not {c : ConfD} (he : confE c = .none) {n : Int} {k : Nat} (h : ownW c k ≠ n) : ∀ w ∈ winsOf c n, 1 ≤ w.len ∧ ¬ (w.start ≤ k ∧ (k : Int) < w.start + w.len) := fun w hw => by
  have hcw := conf_windows he
  obtain ⟨h1, h2⟩ := List.mem_filter.1 hw
  refine ⟨(hcw.2.1 w h1).len, fun hc => h ?_⟩
  rw [ownW, atW_mem hc hcw.2.2.1 (fun x hx => (hcw.2.1 x hx).len) h1]
  simpa using h2
theorem own_yes {c : ConfD} (he : confE c = .none) {n : Int} (hn : -1 ≤ n) {k : Nat} (h : ownW c k = n) : nextW (winsOf c n) k = some k := by
  have hcw := conf_windows he
  cases ha : atW c.windows (k : Int) with
  | none => rw [ownW, ha] at h; simp at h; omega
  | some p =>
    rw [ownW, ha] at h; simp at h; subst h
    exact nextW_own hcw.2.2.1 (fun x hx => (hcw.2.1 x hx).len) ha
theorem rNext_spec {X : Ctx} (hS : Sent X) (c : ConfD) (hc : c.Small) (n t : Int) : ACalc X 45 [encConf c, .int .i64 n, .int .i64 t] (.tup [.int .i64 (nextAns c n t), .int .i64 (nextErr c n t).code]) := by
  intro H
  refine acalls' (N := 43) (rs := [.tmp 6, .tmp 7]) [] (by rw [hS.P]; exact Tryz.func45) rfl rfl rfl (by decide) (by simp) ?_
  have hk0 : ∀ i, H.get i ≠ .free → (H.put H.nx (.row [encConf c] 6 0)).get i = H.get i := put_keeps (by simp) (keeps_refl H)
  simp [entryR, hS.P]
  refine (rconfGood_spec hS c hc).go ?_
  by_cases he : confE c = .none
  rotate_left
  · have hO : ownErr c n = .bare 8 := by simp only [ownErr]; rw [if_pos (by simp [he])]
    have hE : nextErr c n t = .bare 8 := by simp only [nextErr]; rw [if_pos (by simp [hO]), hO]
    simp [hS.P, he]
    exact Leave.data hk0 (by simp) ⟨by simp [nextAns, hE, PE.code]; rfl, rfl⟩
  simp [hS.P, he]
  refine (rowner_spec hS c n).go ?_
  by_cases ho : -1 ≤ n ∧ n < c.parts.length
  rotate_left
  · have hO : ownErr c n = .bare 12 := by simp only [ownErr]; rw [if_neg (by simp [he]), if_neg ho]
    have hE : nextErr c n t = .bare 12 := by simp only [nextErr]; rw [if_pos (by simp [hO]), hO]
    simp [hS.P, ho]
    exact Leave.data hk0 (by simp) ⟨by simp [nextAns, hE, PE.code]; rfl, rfl⟩
  have hO : ownErr c n = .none := by simp only [ownErr]; rw [if_neg (by simp [he]), if_pos ho]
  simp [hS.P, ho]
  by_cases h0 : t < 0
  · have hE : nextErr c n t = .bare 12 := by simp only [nextErr]; rw [if_neg (by simp [hO]), if_neg (by omega)]
    simp [hS.P, h0]
    exact Leave.data hk0 (by simp) ⟨by simp [nextAns, hE, PE.code]; rfl, rfl⟩
  by_cases h1 : c.ticks ≤ t
  · have hE : nextErr c n t = .bare 12 := by simp only [nextErr]; rw [if_neg (by simp [hO]), if_neg (by omega)]
    simp [hS.P, h0, h1]
    exact Leave.data hk0 (by simp) ⟨by simp [nextAns, hE, PE.code]; rfl, rfl⟩
  simp [hS.P, h0, h1]
  refine (rOwners_spec hS c hc he).go ?_
  simp [hS.P]
  obtain ⟨t0, ht⟩ := Int.eq_ofNat_of_zero_le (show 0 ≤ t by omega)
  subst ht
  have hcw := conf_windows he
  refine AWp.loop (S := Nat) (fun k => t0 ≤ k ∧ k ≤ c.ticks.toNat ∧ nextW (winsOf c n) t0 = nextW (winsOf c n) k)
    (fun k => [(1, .int .i64 n), (2, .int .i64 t0), (3, .ptr H.nx 0 0 0), (8, .fsl (rowF (ownW c) c.ticks.toNat)), (9, .int .i64 k)]) (fun _ => H.put H.nx (.row [encConf c] 6 0)) (fun k => c.ticks.toNat - k) t0 ⟨Nat.le_refl _, by omega, rfl⟩ (Wk.regs (by simp)) fun k hk => ?_
  obtain ⟨k1, k2, k3⟩ := hk
  refine aC_sound (lv := []) _ _ _ _ ?_
  simp [hS.P]
  refine aCond_dec (fun hlt => ?_) (fun hge => ?_)
  · have hlt' : k < c.ticks.toNat := by omega
    have hg := rowF_get (ownW c) hlt'
    simp [hS.P, hg]
    by_cases hw : ownW c k = n
    · have hX : nextW (winsOf c n) t0 = some (k : Int) := by rw [k3]; exact own_yes he ho.1 hw
      have hE : nextErr c n t0 = .none := by simp only [nextErr]; rw [if_neg (by simp [hO]), if_pos (by omega), hX]; rfl
      simp [hS.P, hw]
      exact Leave.data hk0 (by simp) ⟨by simp [nextAns, hE, PE.code, hX], rfl⟩
    · simp [hS.P, hw]
      refine ⟨k + 1, ⟨by omega, by omega, ?_⟩, by omega, Wk.regs (by simp [wrap1 (n := k) (by omega)])⟩
      rw [k3, nextW_step (own_not he hw)]; simp
  · have hX : nextW (winsOf c n) t0 = none := by
      rw [k3]
      refine nextW_end fun w hw => ?_
      have := (hcw.2.1 w (List.mem_filter.1 hw).1).fits
      omega
    have hE : nextErr c n t0 = .bare 17 := by simp only [nextErr]; rw [if_neg (by simp [hO]), if_pos (by omega), hX]; rfl
    simp [hS.P]
    exact Leave.data hk0 (by simp) ⟨by simp [nextAns, hE, PE.code]; rfl, rfl⟩
end Go.Proofs.YtndoembhbfiokaaGreatDoor.Am
