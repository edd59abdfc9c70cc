/- The logic and the contracts that the laws stand on, part 21. -/
import Derived.Test.YtndoembhbfiokaaDoorAat
set_option linter.unusedVariables false
set_option linter.unusedSimpArgs false
namespace Go.Proofs.YtndoembhbfiokaaDoor.Am
open Go.RowKit Go.Proofs

instance : DecidableEq WinD := fun a b => decidable_of_iff (a.part = b.part ∧ a.start = b.start ∧ a.len = b.len) (by cases a; cases b; simp)
theorem eqWin_spec {X : Ctx} (hS : Sent X) (a b : List WinD) (ha : a.length ≤ 1073741824) (hb : b.length ≤ 1073741824) : ACalc X 62 [.fsl (a.map encWin), .fsl (b.map encWin)] (.bool (decide (a = b))) := by
  intro H
  refine acalls' (N := 26) (rs := [.tmp 4]) [] (by rw [hS.P]; exact Tryd.func62) rfl rfl rfl (by decide) (by simp) ?_
  simp [entryR, hS.P]
  refine aCond_mk (fun hl => ?_) (fun hl => ?_)
  · simp at hl
    simp
    exact Leave.data (keeps_refl _) (by simp) ⟨by simp; rintro rfl; exact hl rfl, rfl⟩
  simp at hl
  have hl : a.length = b.length := by omega
  simp [hS.P]
  refine AWp.loop (S := Nat) (fun n => n ≤ a.length ∧ a.take n = b.take n)
    (fun n => [(0, .fsl (a.map encWin)), (1, .fsl (b.map encWin)), (11, .fsl (a.map encWin)), (12, .int .i64 a.length), (13, .int .i64 n)]) (fun _ => H) (fun n => a.length - n) 0 ⟨Nat.zero_le _, by simp⟩ (Wk.regs (by simp)) fun n hs => ?_
  obtain ⟨hn, hF⟩ := hs
  refine aC_sound (lv := []) _ _ _ _ ?_
  simp [hS.P]
  refine aCond_dec (fun hlt => ?_) (fun hge => ?_)
  · obtain ⟨x, hx⟩ : ∃ x, a[n]? = some x := ⟨a[n], List.getElem?_eq_getElem hlt⟩
    obtain ⟨y, hy⟩ : ∃ y, b[n]? = some y := ⟨b[n], List.getElem?_eq_getElem (by omega)⟩
    simp [hS.P]
    rw [aC_draw (hc := by kernel_rfl)]
    simp [hS.P, hx, hy, allEq, eqK]
    refine aCond_mk (fun hc => ?_) (fun hc => ?_)
    · have h : x ≠ y := by rintro rfl; simp at hc
      have hab : ¬ a = b := fun e => by subst e; rw [hx] at hy; cases hy; exact h rfl
      simp
      exact Leave.data (keeps_refl _) (by simp) ⟨by simp [hab], rfl⟩
    · have h : x = y := by cases x; cases y; simp at hc; simp [hc]
      subst h
      simp [hS.P]
      exact ⟨n + 1, ⟨hlt, by simp [List.take_add_one, hF, hx, hy]⟩, by omega, Wk.regs (by simp [wrap1 (n := n) (by omega)])⟩
  · obtain rfl : n = a.length := by omega
    simp
    exact Leave.data (keeps_refl _) (by simp) ⟨by rw [List.take_length, hl, List.take_length] at hF; simp [hF], rfl⟩
instance : DecidableEq LinkD := fun a b => decidable_of_iff (a.src = b.src ∧ a.out = b.out ∧ a.dst = b.dst ∧ a.inn = b.inn) (by cases a; cases b; simp)
theorem eqLink_spec {X : Ctx} (hS : Sent X) (a b : List LinkD) (ha : a.length ≤ 1073741824) (hb : b.length ≤ 1073741824) : ACalc X 63 [.fsl (a.map encLink), .fsl (b.map encLink)] (.bool (decide (a = b))) := by
  intro H
  refine acalls' (N := 26) (rs := [.tmp 4]) [] (by rw [hS.P]; exact Tryd.func63) rfl rfl rfl (by decide) (by simp) ?_
  simp [entryR, hS.P]
  refine aCond_mk (fun hl => ?_) (fun hl => ?_)
  · simp at hl
    simp
    exact Leave.data (keeps_refl _) (by simp) ⟨by simp; rintro rfl; exact hl rfl, rfl⟩
  simp at hl
  have hl : a.length = b.length := by omega
  simp [hS.P]
  refine AWp.loop (S := Nat) (fun n => n ≤ a.length ∧ a.take n = b.take n)
    (fun n => [(0, .fsl (a.map encLink)), (1, .fsl (b.map encLink)), (11, .fsl (a.map encLink)), (12, .int .i64 a.length), (13, .int .i64 n)]) (fun _ => H) (fun n => a.length - n) 0 ⟨Nat.zero_le _, by simp⟩ (Wk.regs (by simp)) fun n hs => ?_
  obtain ⟨hn, hF⟩ := hs
  refine aC_sound (lv := []) _ _ _ _ ?_
  simp [hS.P]
  refine aCond_dec (fun hlt => ?_) (fun hge => ?_)
  · obtain ⟨x, hx⟩ : ∃ x, a[n]? = some x := ⟨a[n], List.getElem?_eq_getElem hlt⟩
    obtain ⟨y, hy⟩ : ∃ y, b[n]? = some y := ⟨b[n], List.getElem?_eq_getElem (by omega)⟩
    simp [hS.P]
    rw [aC_draw (hc := by kernel_rfl)]
    simp [hS.P, hx, hy, allEq, eqK]
    refine aCond_mk (fun hc => ?_) (fun hc => ?_)
    · have h : x ≠ y := by rintro rfl; simp at hc
      have hab : ¬ a = b := fun e => by subst e; rw [hx] at hy; cases hy; exact h rfl
      simp
      exact Leave.data (keeps_refl _) (by simp) ⟨by simp [hab], rfl⟩
    · have h : x = y := by cases x; cases y; simp at hc; simp [hc]
      subst h
      simp [hS.P]
      exact ⟨n + 1, ⟨hlt, by simp [List.take_add_one, hF, hx, hy]⟩, by omega, Wk.regs (by simp [wrap1 (n := n) (by omega)])⟩
  · obtain rfl : n = a.length := by omega
    simp
    exact Leave.data (keeps_refl _) (by simp) ⟨by rw [List.take_length, hl, List.take_length] at hF; simp [hF], rfl⟩
instance : DecidableEq PageD := fun a b => decidable_of_iff (a.rights = b.rights ∧ a.init = b.init) (by cases a; cases b; simp)
theorem eqPage_spec {X : Ctx} (hS : Sent X) (a b : List PageD) (ha : a.length ≤ 1073741824) (hb : b.length ≤ 1073741824) : ACalc X 74 [.fsl (a.map encPage), .fsl (b.map encPage)] (.bool (decide (a = b))) := by
  intro H
  refine acalls' (N := 26) (rs := [.tmp 4]) [] (by rw [hS.P]; exact Tryd.func74) rfl rfl rfl (by decide) (by simp) ?_
  simp [entryR, hS.P]
  refine aCond_mk (fun hl => ?_) (fun hl => ?_)
  · simp at hl
    simp
    exact Leave.data (keeps_refl _) (by simp) ⟨by simp; rintro rfl; exact hl rfl, rfl⟩
  simp at hl
  have hl : a.length = b.length := by omega
  simp [hS.P]
  refine AWp.loop (S := Nat) (fun n => n ≤ a.length ∧ a.take n = b.take n)
    (fun n => [(0, .fsl (a.map encPage)), (1, .fsl (b.map encPage)), (11, .fsl (a.map encPage)), (12, .int .i64 a.length), (13, .int .i64 n)]) (fun _ => H) (fun n => a.length - n) 0 ⟨Nat.zero_le _, by simp⟩ (Wk.regs (by simp)) fun n hs => ?_
  obtain ⟨hn, hF⟩ := hs
  refine aC_sound (lv := []) _ _ _ _ ?_
  simp [hS.P]
  refine aCond_dec (fun hlt => ?_) (fun hge => ?_)
  · obtain ⟨x, hx⟩ : ∃ x, a[n]? = some x := ⟨a[n], List.getElem?_eq_getElem hlt⟩
    obtain ⟨y, hy⟩ : ∃ y, b[n]? = some y := ⟨b[n], List.getElem?_eq_getElem (by omega)⟩
    simp [hS.P]
    rw [aC_draw (hc := by kernel_rfl)]
    simp [hS.P, hx, hy, allEq, eqK]
    refine aCond_mk (fun hc => ?_) (fun hc => ?_)
    · have h : x ≠ y := by rintro rfl; simp at hc
      have hab : ¬ a = b := fun e => by subst e; rw [hx] at hy; cases hy; exact h rfl
      simp
      exact Leave.data (keeps_refl _) (by simp) ⟨by simp [hab], rfl⟩
    · have h : x = y := by cases x; cases y; simp at hc; simp [hc]
      subst h
      simp [hS.P]
      exact ⟨n + 1, ⟨hlt, by simp [List.take_add_one, hF, hx, hy]⟩, by omega, Wk.regs (by simp [wrap1 (n := n) (by omega)])⟩
  · obtain rfl : n = a.length := by omega
    simp
    exact Leave.data (keeps_refl _) (by simp) ⟨by rw [List.take_length, hl, List.take_length] at hF; simp [hF], rfl⟩
instance : DecidableEq ProcD := fun a b => decidable_of_iff (a.entry = b.entry ∧ a.prio = b.prio ∧ a.auto = b.auto) (by cases a; cases b; simp)
theorem eqProc_spec {X : Ctx} (hS : Sent X) (a b : List ProcD) (ha : a.length ≤ 1073741824) (hb : b.length ≤ 1073741824) : ACalc X 75 [.fsl (a.map encProc), .fsl (b.map encProc)] (.bool (decide (a = b))) := by
  intro H
  refine acalls' (N := 26) (rs := [.tmp 4]) [] (by rw [hS.P]; exact Tryd.func75) rfl rfl rfl (by decide) (by simp) ?_
  simp [entryR, hS.P]
  refine aCond_mk (fun hl => ?_) (fun hl => ?_)
  · simp at hl
    simp
    exact Leave.data (keeps_refl _) (by simp) ⟨by simp; rintro rfl; exact hl rfl, rfl⟩
  simp at hl
  have hl : a.length = b.length := by omega
  simp [hS.P]
  refine AWp.loop (S := Nat) (fun n => n ≤ a.length ∧ a.take n = b.take n)
    (fun n => [(0, .fsl (a.map encProc)), (1, .fsl (b.map encProc)), (11, .fsl (a.map encProc)), (12, .int .i64 a.length), (13, .int .i64 n)]) (fun _ => H) (fun n => a.length - n) 0 ⟨Nat.zero_le _, by simp⟩ (Wk.regs (by simp)) fun n hs => ?_
  obtain ⟨hn, hF⟩ := hs
  refine aC_sound (lv := []) _ _ _ _ ?_
  simp [hS.P]
  refine aCond_dec (fun hlt => ?_) (fun hge => ?_)
  · obtain ⟨x, hx⟩ : ∃ x, a[n]? = some x := ⟨a[n], List.getElem?_eq_getElem hlt⟩
    obtain ⟨y, hy⟩ : ∃ y, b[n]? = some y := ⟨b[n], List.getElem?_eq_getElem (by omega)⟩
    simp [hS.P]
    rw [aC_draw (hc := by kernel_rfl)]
    simp [hS.P, hx, hy, allEq, eqK]
    refine aCond_mk (fun hc => ?_) (fun hc => ?_)
    · have h : x ≠ y := by rintro rfl; simp at hc
      have hab : ¬ a = b := fun e => by subst e; rw [hx] at hy; cases hy; exact h rfl
      simp
      exact Leave.data (keeps_refl _) (by simp) ⟨by simp [hab], rfl⟩
    · have h : x = y := by cases x; cases y; simp at hc; simp [hc]
      subst h
      simp [hS.P]
      exact ⟨n + 1, ⟨hlt, by simp [List.take_add_one, hF, hx, hy]⟩, by omega, Wk.regs (by simp [wrap1 (n := n) (by omega)])⟩
  · obtain rfl : n = a.length := by omega
    simp
    exact Leave.data (keeps_refl _) (by simp) ⟨by rw [List.take_length, hl, List.take_length] at hF; simp [hF], rfl⟩
instance : DecidableEq PortD := fun a b => decidable_of_iff (a.kind = b.kind ∧ a.size = b.size ∧ a.depth = b.depth ∧ a.refresh = b.refresh) (by cases a; cases b; simp)
theorem eqPort_spec {X : Ctx} (hS : Sent X) (a b : List PortD) (ha : a.length ≤ 1073741824) (hb : b.length ≤ 1073741824) : ACalc X 76 [.fsl (a.map encPort), .fsl (b.map encPort)] (.bool (decide (a = b))) := by
  intro H
  refine acalls' (N := 26) (rs := [.tmp 4]) [] (by rw [hS.P]; exact Tryd.func76) rfl rfl rfl (by decide) (by simp) ?_
  simp [entryR, hS.P]
  refine aCond_mk (fun hl => ?_) (fun hl => ?_)
  · simp at hl
    simp
    exact Leave.data (keeps_refl _) (by simp) ⟨by simp; rintro rfl; exact hl rfl, rfl⟩
  simp at hl
  have hl : a.length = b.length := by omega
  simp [hS.P]
  refine AWp.loop (S := Nat) (fun n => n ≤ a.length ∧ a.take n = b.take n)
    (fun n => [(0, .fsl (a.map encPort)), (1, .fsl (b.map encPort)), (11, .fsl (a.map encPort)), (12, .int .i64 a.length), (13, .int .i64 n)]) (fun _ => H) (fun n => a.length - n) 0 ⟨Nat.zero_le _, by simp⟩ (Wk.regs (by simp)) fun n hs => ?_
  obtain ⟨hn, hF⟩ := hs
  refine aC_sound (lv := []) _ _ _ _ ?_
  simp [hS.P]
  refine aCond_dec (fun hlt => ?_) (fun hge => ?_)
  · obtain ⟨x, hx⟩ : ∃ x, a[n]? = some x := ⟨a[n], List.getElem?_eq_getElem hlt⟩
    obtain ⟨y, hy⟩ : ∃ y, b[n]? = some y := ⟨b[n], List.getElem?_eq_getElem (by omega)⟩
    simp [hS.P]
    rw [aC_draw (hc := by kernel_rfl)]
    simp [hS.P, hx, hy, allEq, eqK]
    refine aCond_mk (fun hc => ?_) (fun hc => ?_)
    · have h : x ≠ y := by rintro rfl; simp at hc
      have hab : ¬ a = b := fun e => by subst e; rw [hx] at hy; cases hy; exact h rfl
      simp
      exact Leave.data (keeps_refl _) (by simp) ⟨by simp [hab], rfl⟩
    · have h : x = y := by cases x; cases y; simp at hc; simp [hc]
      subst h
      simp [hS.P]
      exact ⟨n + 1, ⟨hlt, by simp [List.take_add_one, hF, hx, hy]⟩, by omega, Wk.regs (by simp [wrap1 (n := n) (by omega)])⟩
  · obtain rfl : n = a.length := by omega
    simp
    exact Leave.data (keeps_refl _) (by simp) ⟨by rw [List.take_length, hl, List.take_length] at hF; simp [hF], rfl⟩
theorem eqInt_spec {X : Ctx} (hS : Sent X) (a b : List Int) (ha : a.length ≤ 1073741824) (hb : b.length ≤ 1073741824) : ACalc X 61 [.fsl (a.map encInt), .fsl (b.map encInt)] (.bool (decide (a = b))) := by
  intro H
  refine acalls' (N := 26) (rs := [.tmp 4]) [] (by rw [hS.P]; exact Tryd.func61) rfl rfl rfl (by decide) (by simp) ?_
  simp [entryR, hS.P]
  refine aCond_mk (fun hl => ?_) (fun hl => ?_)
  · simp at hl
    simp
    exact Leave.data (keeps_refl _) (by simp) ⟨by simp; rintro rfl; exact hl rfl, rfl⟩
  simp at hl
  have hl : a.length = b.length := by omega
  simp [hS.P]
  refine AWp.loop (S := Nat) (fun n => n ≤ a.length ∧ a.take n = b.take n)
    (fun n => [(0, .fsl (a.map encInt)), (1, .fsl (b.map encInt)), (11, .fsl (a.map encInt)), (12, .int .i64 a.length), (13, .int .i64 n)]) (fun _ => H) (fun n => a.length - n) 0 ⟨Nat.zero_le _, by simp⟩ (Wk.regs (by simp)) fun n hs => ?_
  obtain ⟨hn, hF⟩ := hs
  refine aC_sound (lv := []) _ _ _ _ ?_
  simp [hS.P]
  refine aCond_dec (fun hlt => ?_) (fun hge => ?_)
  · obtain ⟨x, hx⟩ : ∃ x, a[n]? = some x := ⟨a[n], List.getElem?_eq_getElem hlt⟩
    obtain ⟨y, hy⟩ : ∃ y, b[n]? = some y := ⟨b[n], List.getElem?_eq_getElem (by omega)⟩
    simp [hS.P]
    rw [aC_draw (hc := by kernel_rfl)]
    simp [hS.P, hx, hy, allEq, eqK, encInt]
    refine aCond_mk (fun hc => ?_) (fun hc => ?_)
    · have h : x ≠ y := by rintro rfl; simp at hc
      have hab : ¬ a = b := fun e => by subst e; rw [hx] at hy; cases hy; exact h rfl
      simp
      exact Leave.data (keeps_refl _) (by simp) ⟨by simp [hab], rfl⟩
    · have h : x = y := by simpa using hc
      subst h
      simp [hS.P]
      exact ⟨n + 1, ⟨hlt, by simp [List.take_add_one, hF, hx, hy]⟩, by omega, Wk.regs (by simp [wrap1 (n := n) (by omega)])⟩
  · obtain rfl : n = a.length := by omega
    simp
    exact Leave.data (keeps_refl _) (by simp) ⟨by rw [List.take_length, hl, List.take_length] at hF; simp [hF], rfl⟩
end Go.Proofs.YtndoembhbfiokaaDoor.Am
set_option linter.unusedVariables false
set_option linter.unusedSimpArgs false
namespace Go.Proofs.YtndoembhbfiokaaDoor.Am
open Go.RowKit Go.Proofs

theorem plan_iff (p q : PlanD) : (p.id = q.id ∧ p.mobile = q.mobile ∧ p.events = q.events ∧ p.pages = q.pages ∧ p.procs = q.procs ∧ p.ports = q.ports ∧ p.sems = q.sems) ↔ p = q := by
  cases p; cases q
  constructor
  · intro h
    simp only at h
    obtain ⟨rfl, rfl, rfl, rfl, rfl, rfl, rfl⟩ := h
    rfl
  · intro h
    cases h
    exact ⟨rfl, rfl, rfl, rfl, rfl, rfl, rfl⟩
instance : DecidableEq PlanD := fun p q => decidable_of_iff _ (plan_iff p q)
set_option maxRecDepth 8000 in
theorem planSame_spec {X : Ctx} (hS : Sent X) (p q : PlanD) (hp : p.Small) (hq : q.Small) : ACalc X 40 [encPlan p, encPlan q] (.bool (decide (p = q))) := by
  intro H
  refine acalls' (N := 52) (rs := [.tmp 4]) [] (by rw [hS.P]; exact Tryd.func40) rfl rfl rfl (by decide) (by simp) ?_
  obtain ⟨a1, a2, a3, a4⟩ := hp
  obtain ⟨b1, b2, b3, b4⟩ := hq
  have f1 : H.get (H.nx + 1) = .free := AH.free_add H 1
  have fin : ∀ {s t : Slot} (b : Bool), b = decide (p = q) → Leave X H (.bool b) ((H.put H.nx s).put (H.nx + 1) t) fun v' H' => v' = .bool (decide (p = q)) ∧ H' = H := fun b hb =>
    Leave.data (put_keeps f1 (put_keeps (by simp) (keeps_refl H))) (by simp) ⟨by rw [hb], rfl⟩
  have no : ¬ (p.id = q.id ∧ p.mobile = q.mobile ∧ p.events = q.events ∧ p.pages = q.pages ∧ p.procs = q.procs ∧ p.ports = q.ports ∧ p.sems = q.sems) → false = decide (p = q) := fun h => by rw [plan_iff] at h; simp [h]
  simp [entryR, hS.P]
  by_cases h1 : p.id = q.id
  rotate_left
  · simp [h1, hS.P]
    exact fin false (no fun h => h1 h.1)
  by_cases h2 : p.mobile = q.mobile
  rotate_left
  · have e2 : (p.mobile == q.mobile) = false := by simp [h2]
    simp [h1, e2, hS.P]
    exact fin false (no fun h => h2 h.2.1)
  by_cases h3 : p.events = q.events
  rotate_left
  · simp [h1, h2, h3, hS.P]
    exact fin false (no fun h => h3 h.2.2.1)
  simp [h1, h2, h3, hS.P]
  refine (eqPage_spec hS p.pages q.pages a1 b1).go ?_
  by_cases h4 : p.pages = q.pages
  rotate_left
  · simp [h1, h2, h3, h4, hS.P]
    exact fin false (no fun h => h4 h.2.2.2.1)
  simp [h1, h2, h3, h4, hS.P]
  refine (eqProc_spec hS p.procs q.procs a2 b2).go ?_
  by_cases h5 : p.procs = q.procs
  rotate_left
  · simp [h1, h2, h3, h4, h5, hS.P]
    exact fin false (no fun h => h5 h.2.2.2.2.1)
  simp [h1, h2, h3, h4, h5, hS.P]
  refine (eqPort_spec hS p.ports q.ports a3 b3).go ?_
  by_cases h6 : p.ports = q.ports
  rotate_left
  · simp [h1, h2, h3, h4, h5, h6, hS.P]
    exact fin false (no fun h => h6 h.2.2.2.2.2.1)
  simp [h1, h2, h3, h4, h5, h6, hS.P]
  refine (eqInt_spec hS p.sems q.sems a4 b4).go ?_
  simp [h1, h2, h3, h4, h5, h6, hS.P]
  refine fin _ ?_
  have := plan_iff p q
  simp [h1, h2, h3, h4, h5, h6] at this
  rw [Bool.eq_iff_iff]; simpa using this
end Go.Proofs.YtndoembhbfiokaaDoor.Am
set_option linter.unusedVariables false
set_option linter.unusedSimpArgs false
namespace Go.Proofs.YtndoembhbfiokaaDoor.Am
open Go.RowKit Go.Proofs

theorem eqPlans_spec {X : Ctx} (hS : Sent X) (a b : List PlanD) (ha : a.length ≤ 1073741824) (hb : b.length ≤ 1073741824) (hpa : ∀ p ∈ a, p.Small) (hpb : ∀ p ∈ b, p.Small) :
    ACalc X 60 [.fsl (a.map encPlan), .fsl (b.map encPlan), .func (.func 40) [] []] (.bool (decide (a = b))) := by
  intro H
  refine acalls' (N := 32) (rs := [.tmp 6]) [] (by rw [hS.P]; exact Tryd.func60) rfl rfl rfl (by decide) (by simp) ?_
  simp [entryR, hS.P]
  refine aCond_mk (fun hl => ?_) (fun hl => ?_)
  · simp at hl
    simp
    exact Leave.data (keeps_refl _) (by simp) ⟨by simp; rintro rfl; exact hl rfl, rfl⟩
  simp at hl
  have hl : a.length = b.length := by omega
  simp [hS.P]
  refine AWp.loop (S := Nat × AH) (fun s => s.1 ≤ a.length ∧ a.take s.1 = b.take s.1 ∧ ∀ i, H.get i ≠ .free → s.2.get i = H.get i)
    (fun s => [(1, .fsl (b.map encPlan)), (2, .func (.func 40) [] []), (15, .fsl (a.map encPlan)), (16, .int .i64 a.length), (17, .int .i64 s.1)]) (fun s => s.2) (fun s => a.length - s.1) (0, H) ⟨Nat.zero_le _, by simp, keeps_refl H⟩ (Wk.regs (by simp)) fun s hs => ?_
  obtain ⟨n, K⟩ := s
  obtain ⟨hn, hF, hk⟩ := hs
  simp only at hn hF hk
  have f1 : K.get (K.nx + 1) = .free := AH.free_add K 1
  have k1 : ∀ s t, ∀ i, H.get i ≠ .free → ((K.put K.nx s).put (K.nx + 1) t).get i = H.get i := fun s t => by
    have h1 := put_keeps (s := s) (keepsNx hk) hk
    have h2 := keepsNx h1
    rw [AH.nx_fresh] at h2
    exact put_keeps h2 h1
  refine aC_sound (lv := []) _ _ _ _ ?_
  simp [hS.P]
  refine aCond_dec (fun hlt => ?_) (fun hge => ?_)
  · obtain ⟨x, hx⟩ : ∃ x, a[n]? = some x := ⟨a[n], List.getElem?_eq_getElem hlt⟩
    obtain ⟨y, hy⟩ : ∃ y, b[n]? = some y := ⟨b[n], List.getElem?_eq_getElem (by omega)⟩
    simp [hS.P, hx, hy]
    refine (planSame_spec hS x y (hpa x (List.mem_of_getElem? hx)) (hpb y (List.mem_of_getElem? hy))).go ?_
    by_cases h : x = y
    · simp [hS.P, h]
      exact ⟨n + 1, _, ⟨hlt, by simp [List.take_add_one, hF, hx, hy, h], k1 _ _⟩, by omega, Wk.regs (by simp [wrap1 (n := n) (by omega)])⟩
    · have hab : ¬ a = b := fun e => by subst e; rw [hx] at hy; cases hy; exact h rfl
      simp [hS.P, h]
      exact Leave.data (k1 _ _) (by simp) ⟨by simp [hab], rfl⟩
  · obtain rfl : n = a.length := by omega
    simp
    exact Leave.data hk (by simp) ⟨by rw [List.take_length, hl, List.take_length] at hF; simp [hF], rfl⟩

theorem conf_iff (p q : ConfD) : (p.ticks = q.ticks ∧ p.tries = q.tries ∧ p.parts = q.parts ∧ p.homes = q.homes ∧ p.windows = q.windows ∧ p.links = q.links) ↔ p = q := by
  cases p; cases q
  constructor
  · intro h
    simp only at h
    obtain ⟨rfl, rfl, rfl, rfl, rfl, rfl⟩ := h
    rfl
  · intro h
    cases h
    exact ⟨rfl, rfl, rfl, rfl, rfl, rfl⟩
instance : DecidableEq ConfD := fun p q => decidable_of_iff _ (conf_iff p q)
set_option maxRecDepth 8000 in
theorem confSame_spec {X : Ctx} (hS : Sent X) (p q : ConfD) (hp : p.Small) (hq : q.Small) : ACalc X 33 [encConf p, encConf q] (.bool (decide (p = q))) := by
  intro H
  refine acalls' (N := 45) (rs := [.tmp 4]) [] (by rw [hS.P]; exact Tryd.func33) rfl rfl rfl (by decide) (by simp) ?_
  obtain ⟨a1, a2, a3, a4, a5⟩ := hp
  obtain ⟨b1, b2, b3, b4, b5⟩ := hq
  have f1 : H.get (H.nx + 1) = .free := AH.free_add H 1
  have fin : ∀ {s t : Slot} (b : Bool), b = decide (p = q) → Leave X H (.bool b) ((H.put H.nx s).put (H.nx + 1) t) fun v' H' => v' = .bool (decide (p = q)) ∧ H' = H := fun b hb =>
    Leave.data (put_keeps f1 (put_keeps (by simp) (keeps_refl H))) (by simp) ⟨by rw [hb], rfl⟩
  have no : ¬ (p.ticks = q.ticks ∧ p.tries = q.tries ∧ p.parts = q.parts ∧ p.homes = q.homes ∧ p.windows = q.windows ∧ p.links = q.links) → false = decide (p = q) := fun h => by rw [conf_iff] at h; simp [h]
  simp [entryR, hS.P]
  by_cases h1 : p.ticks = q.ticks
  rotate_left
  · simp [h1, hS.P]
    exact fin false (no fun h => h1 h.1)
  by_cases h2 : p.tries = q.tries
  rotate_left
  · simp [h1, h2, hS.P]
    exact fin false (no fun h => h2 h.2.1)
  simp [h1, h2, hS.P]
  refine (eqPlans_spec hS p.parts q.parts a1 b1 a2 b2).go ?_
  by_cases h3 : p.parts = q.parts
  rotate_left
  · simp [h1, h2, h3, hS.P]
    exact fin false (no fun h => h3 h.2.2.1)
  simp [h1, h2, h3, hS.P]
  refine (eqInt_spec hS p.homes q.homes a3 b3).go ?_
  by_cases h4 : p.homes = q.homes
  rotate_left
  · simp [h1, h2, h3, h4, hS.P]
    exact fin false (no fun h => h4 h.2.2.2.1)
  simp [h1, h2, h3, h4, hS.P]
  refine (eqWin_spec hS p.windows q.windows a4 b4).go ?_
  by_cases h5 : p.windows = q.windows
  rotate_left
  · simp [h1, h2, h3, h4, h5, hS.P]
    exact fin false (no fun h => h5 h.2.2.2.2.1)
  simp [h1, h2, h3, h4, h5, hS.P]
  refine (eqLink_spec hS p.links q.links a5 b5).go ?_
  simp [h1, h2, h3, h4, h5, hS.P]
  refine fin _ ?_
  have := conf_iff p q
  simp [h1, h2, h3, h4, h5] at this
  rw [Bool.eq_iff_iff]; simpa using this
end Go.Proofs.YtndoembhbfiokaaDoor.Am
set_option linter.unusedVariables false
set_option linter.unusedSimpArgs false
namespace Go.Proofs.YtndoembhbfiokaaDoor.Am
open Go.RowKit Go.Proofs

set_option maxRecDepth 8000 in
theorem rplanSame_spec {X : Ctx} (hS : Sent X) (p q : PlanD) (hp : p.Small) (hq : q.Small) : ACalc X 41 [encPlan p, encPlan q] (.bool (decide (p = q))) := by
  intro H
  refine acalls' (N := 136) (rs := [.tmp 4]) [] (by rw [hS.P]; exact Tryd.func41) rfl rfl rfl (by decide) (by simp) ?_
  have f1 : H.get (H.nx + 1) = .free := AH.free_add H 1
  have iff : (p.id = q.id ∧ p.mobile = q.mobile ∧ p.events = q.events ∧ p.pages = q.pages ∧ p.procs = q.procs ∧ p.ports = q.ports ∧ p.sems = q.sems) ↔ p = q := plan_iff p q
  have fin : ∀ {s t : Slot} (b : Bool), b = decide (p = q) → Leave X H (.bool b) ((H.put H.nx s).put (H.nx + 1) t) fun v' H' => v' = .bool (decide (p = q)) ∧ H' = H := fun b hb =>
    Leave.data (put_keeps f1 (put_keeps (by simp) (keeps_refl H))) (by simp) ⟨by rw [hb], rfl⟩
  have no : ¬ (p.id = q.id ∧ p.mobile = q.mobile ∧ p.events = q.events ∧ p.pages = q.pages ∧ p.procs = q.procs ∧ p.ports = q.ports ∧ p.sems = q.sems) → false = decide (p = q) := fun h => by rw [iff] at h; simp [h]
  simp [entryR, hS.P]
  by_cases h0 : p.id = q.id
  rotate_left
  · simp [h0, hS.P]
    exact fin false (no fun h => h0 (by simp [h]))
  by_cases h1 : p.mobile = q.mobile
  rotate_left
  · have e : (p.mobile == q.mobile) = false := by simp [h1]
    have e2 : (p.mobile != q.mobile) = true := by simp [h1]
    simp [h0, e, e2, hS.P]
    exact fin false (no fun h => h1 (by simp [h]))
  by_cases h2 : p.events = q.events
  rotate_left
  · simp [h0, h1, h2, hS.P]
    exact fin false (no fun h => h2 (by simp [h]))
  by_cases l3 : p.pages.length = q.pages.length
  rotate_left
  · have e : ¬ (p.pages.length : Int) = q.pages.length := by omega
    simp [h0, h1, h2, e, hS.P]
    exact fin false (no fun h => l3 (by simp [h]))
  by_cases l4 : p.procs.length = q.procs.length
  rotate_left
  · have e : ¬ (p.procs.length : Int) = q.procs.length := by omega
    simp [h0, h1, h2, l3, e, hS.P]
    exact fin false (no fun h => l4 (by simp [h]))
  by_cases l5 : p.ports.length = q.ports.length
  rotate_left
  · have e : ¬ (p.ports.length : Int) = q.ports.length := by omega
    simp [h0, h1, h2, l3, l4, e, hS.P]
    exact fin false (no fun h => l5 (by simp [h]))
  by_cases l6 : p.sems.length = q.sems.length
  rotate_left
  · have e : ¬ (p.sems.length : Int) = q.sems.length := by omega
    simp [h0, h1, h2, l3, l4, l5, e, hS.P]
    exact fin false (no fun h => l6 (by simp [h]))
  simp [h0, h1, h2, l3, l4, l5, l6, hS.P]
  generalize hK : (AH.put _ (H.nx + 1) _) = K
  have g0 : K.get H.nx = .row [encPlan p] 7 0 := by rw [← hK]; simp
  have g1 : K.get (H.nx + 1) = .row [encPlan q] 7 0 := by rw [← hK]; simp
  have hk : ∀ i, H.get i ≠ .free → K.get i = H.get i := by rw [← hK]; exact put_keeps f1 (put_keeps (by simp) (keeps_refl H))
  have fin : ∀ (b : Bool), b = decide (p = q) → Leave X H (.bool b) K fun v' H' => v' = .bool (decide (p = q)) ∧ H' = H := fun b hb => Leave.data hk (by simp) ⟨by rw [hb], rfl⟩
  refine AWp.loop (S := Nat) (fun n => n ≤ p.pages.length ∧ p.pages.take n = q.pages.take n)
    (fun n => [(2, .ptr H.nx 0 0 0), (3, .ptr (H.nx + 1) 0 0 0), (5, .int .i64 n)]) (fun _ => K) (fun n => p.pages.length - n) 0 ⟨Nat.zero_le _, by simp⟩ (Wk.regs (by simp)) fun n hs => ?_
  obtain ⟨hn, hF⟩ := hs
  have hz := hp.pages
  refine aC_sound (lv := []) _ _ _ _ ?_
  simp [hS.P, g0, g1]
  refine aCond_dec (fun hlt => ?_) (fun hge => ?_)
  · obtain ⟨x, hx⟩ : ∃ x, p.pages[n]? = some x := ⟨p.pages[n], List.getElem?_eq_getElem (by omega)⟩
    obtain ⟨y, hy⟩ : ∃ y, q.pages[n]? = some y := ⟨q.pages[n], List.getElem?_eq_getElem (by omega)⟩
    simp [hS.P]
    rw [aC_draw (hc := by kernel_rfl)]
    simp [hS.P, g0, g1, hx, hy, allEq, eqK]
    refine aIf_mk (chkH_reads (by simp)) ?_
    simp [hS.P]
    refine aCond_mk (fun hc => ?_) (fun hc => ?_)
    · have h : x ≠ y := by rintro rfl; simp at hc
      have hab : ¬ p.pages = q.pages := fun e => by rw [e, hy] at hx; cases hx; exact h rfl
      simp [hS.P]
      exact fin false (no fun h => hab (by simp [h]))
    · have h : x = y := by cases x; cases y; simp at hc; simp [hc]
      subst h
      simp [hS.P]
      exact ⟨n + 1, ⟨by omega, by simp [List.take_add_one, hF, hx, hy]⟩, by omega, Wk.regs (by simp [wrap1 (n := n) (by omega)])⟩
  have hn' : n = p.pages.length := by omega
  have e3 : p.pages = q.pages := by rw [hn', List.take_length, l3, List.take_length] at hF; exact hF
  clear hF hz hge hn hn'
  simp [hS.P]
  refine AWp.loop (S := Nat) (fun n => n ≤ p.procs.length ∧ p.procs.take n = q.procs.take n)
    (fun n => [(2, .ptr H.nx 0 0 0), (3, .ptr (H.nx + 1) 0 0 0), (6, .int .i64 n)]) (fun _ => K) (fun n => p.procs.length - n) 0 ⟨Nat.zero_le _, by simp⟩ (Wk.regs (by simp)) fun n hs => ?_
  obtain ⟨hn, hF⟩ := hs
  have hz := hp.procs
  refine aC_sound (lv := []) _ _ _ _ ?_
  simp [hS.P, g0, g1]
  refine aCond_dec (fun hlt => ?_) (fun hge => ?_)
  · obtain ⟨x, hx⟩ : ∃ x, p.procs[n]? = some x := ⟨p.procs[n], List.getElem?_eq_getElem (by omega)⟩
    obtain ⟨y, hy⟩ : ∃ y, q.procs[n]? = some y := ⟨q.procs[n], List.getElem?_eq_getElem (by omega)⟩
    simp [hS.P]
    rw [aC_draw (hc := by kernel_rfl)]
    simp [hS.P, g0, g1, hx, hy, allEq, eqK]
    refine aIf_mk (chkH_reads (by simp)) ?_
    simp [hS.P]
    refine aCond_mk (fun hc => ?_) (fun hc => ?_)
    · have h : x ≠ y := by rintro rfl; simp at hc
      have hab : ¬ p.procs = q.procs := fun e => by rw [e, hy] at hx; cases hx; exact h rfl
      simp [hS.P]
      exact fin false (no fun h => hab (by simp [h]))
    · have h : x = y := by cases x; cases y; simp at hc; simp [hc]
      subst h
      simp [hS.P]
      exact ⟨n + 1, ⟨by omega, by simp [List.take_add_one, hF, hx, hy]⟩, by omega, Wk.regs (by simp [wrap1 (n := n) (by omega)])⟩
  have hn' : n = p.procs.length := by omega
  have e4 : p.procs = q.procs := by rw [hn', List.take_length, l4, List.take_length] at hF; exact hF
  clear hF hz hge hn hn'
  simp [hS.P]
  refine AWp.loop (S := Nat) (fun n => n ≤ p.ports.length ∧ p.ports.take n = q.ports.take n)
    (fun n => [(2, .ptr H.nx 0 0 0), (3, .ptr (H.nx + 1) 0 0 0), (7, .int .i64 n)]) (fun _ => K) (fun n => p.ports.length - n) 0 ⟨Nat.zero_le _, by simp⟩ (Wk.regs (by simp)) fun n hs => ?_
  obtain ⟨hn, hF⟩ := hs
  have hz := hp.ports
  refine aC_sound (lv := []) _ _ _ _ ?_
  simp [hS.P, g0, g1]
  refine aCond_dec (fun hlt => ?_) (fun hge => ?_)
  · obtain ⟨x, hx⟩ : ∃ x, p.ports[n]? = some x := ⟨p.ports[n], List.getElem?_eq_getElem (by omega)⟩
    obtain ⟨y, hy⟩ : ∃ y, q.ports[n]? = some y := ⟨q.ports[n], List.getElem?_eq_getElem (by omega)⟩
    simp [hS.P]
    rw [aC_draw (hc := by kernel_rfl)]
    simp [hS.P, g0, g1, hx, hy, allEq, eqK]
    refine aIf_mk (chkH_reads (by simp)) ?_
    simp [hS.P]
    refine aCond_mk (fun hc => ?_) (fun hc => ?_)
    · have h : x ≠ y := by rintro rfl; simp at hc
      have hab : ¬ p.ports = q.ports := fun e => by rw [e, hy] at hx; cases hx; exact h rfl
      simp [hS.P]
      exact fin false (no fun h => hab (by simp [h]))
    · have h : x = y := by cases x; cases y; simp at hc; simp [hc]
      subst h
      simp [hS.P]
      exact ⟨n + 1, ⟨by omega, by simp [List.take_add_one, hF, hx, hy]⟩, by omega, Wk.regs (by simp [wrap1 (n := n) (by omega)])⟩
  have hn' : n = p.ports.length := by omega
  have e5 : p.ports = q.ports := by rw [hn', List.take_length, l5, List.take_length] at hF; exact hF
  clear hF hz hge hn hn'
  simp [hS.P]
  refine AWp.loop (S := Nat) (fun n => n ≤ p.sems.length ∧ p.sems.take n = q.sems.take n)
    (fun n => [(2, .ptr H.nx 0 0 0), (3, .ptr (H.nx + 1) 0 0 0), (8, .int .i64 n)]) (fun _ => K) (fun n => p.sems.length - n) 0 ⟨Nat.zero_le _, by simp⟩ (Wk.regs (by simp)) fun n hs => ?_
  obtain ⟨hn, hF⟩ := hs
  have hz := hp.sems
  refine aC_sound (lv := []) _ _ _ _ ?_
  simp [hS.P, g0, g1]
  refine aCond_dec (fun hlt => ?_) (fun hge => ?_)
  · obtain ⟨x, hx⟩ : ∃ x, p.sems[n]? = some x := ⟨p.sems[n], List.getElem?_eq_getElem (by omega)⟩
    obtain ⟨y, hy⟩ : ∃ y, q.sems[n]? = some y := ⟨q.sems[n], List.getElem?_eq_getElem (by omega)⟩
    simp [hS.P]
    rw [aC_draw (hc := by kernel_rfl)]
    simp [hS.P, g0, g1, hx, hy, allEq, eqK, encInt]
    refine aIf_mk (chkH_reads (by simp)) ?_
    simp [hS.P]
    refine aCond_mk (fun hc => ?_) (fun hc => ?_)
    · have h : x ≠ y := by rintro rfl; simp at hc
      have hab : ¬ p.sems = q.sems := fun e => by rw [e, hy] at hx; cases hx; exact h rfl
      simp [hS.P]
      exact fin false (no fun h => hab (by simp [h]))
    · have h : x = y := by simpa using hc
      subst h
      simp [hS.P]
      exact ⟨n + 1, ⟨by omega, by simp [List.take_add_one, hF, hx, hy]⟩, by omega, Wk.regs (by simp [wrap1 (n := n) (by omega)])⟩
  have hn' : n = p.sems.length := by omega
  have e6 : p.sems = q.sems := by rw [hn', List.take_length, l6, List.take_length] at hF; exact hF
  clear hF hz hge hn hn'
  simp [hS.P]
  exact fin true (by rw [eq_comm, decide_eq_true_iff, ← iff]; exact ⟨h0, h1, h2, e3, e4, e5, e6⟩)
set_option maxRecDepth 8000 in
theorem rconfSame_spec {X : Ctx} (hS : Sent X) (p q : ConfD) (hp : p.Small) (hq : q.Small) : ACalc X 34 [encConf p, encConf q] (.bool (decide (p = q))) := by
  intro H
  refine acalls' (N := 130) (rs := [.tmp 4]) [] (by rw [hS.P]; exact Tryd.func34) rfl rfl rfl (by decide) (by simp) ?_
  have f1 : H.get (H.nx + 1) = .free := AH.free_add H 1
  have iff : (p.ticks = q.ticks ∧ p.tries = q.tries ∧ p.parts = q.parts ∧ p.homes = q.homes ∧ p.windows = q.windows ∧ p.links = q.links) ↔ p = q := conf_iff p q
  have fin : ∀ {s t : Slot} (b : Bool), b = decide (p = q) → Leave X H (.bool b) ((H.put H.nx s).put (H.nx + 1) t) fun v' H' => v' = .bool (decide (p = q)) ∧ H' = H := fun b hb =>
    Leave.data (put_keeps f1 (put_keeps (by simp) (keeps_refl H))) (by simp) ⟨by rw [hb], rfl⟩
  have no : ¬ (p.ticks = q.ticks ∧ p.tries = q.tries ∧ p.parts = q.parts ∧ p.homes = q.homes ∧ p.windows = q.windows ∧ p.links = q.links) → false = decide (p = q) := fun h => by rw [iff] at h; simp [h]
  simp [entryR, hS.P]
  by_cases h0 : p.ticks = q.ticks
  rotate_left
  · simp [h0, hS.P]
    exact fin false (no fun h => h0 (by simp [h]))
  by_cases h1 : p.tries = q.tries
  rotate_left
  · simp [h0, h1, hS.P]
    exact fin false (no fun h => h1 (by simp [h]))
  by_cases l2 : p.parts.length = q.parts.length
  rotate_left
  · have e : ¬ (p.parts.length : Int) = q.parts.length := by omega
    simp [h0, h1, e, hS.P]
    exact fin false (no fun h => l2 (by simp [h]))
  by_cases l3 : p.homes.length = q.homes.length
  rotate_left
  · have e : ¬ (p.homes.length : Int) = q.homes.length := by omega
    simp [h0, h1, l2, e, hS.P]
    exact fin false (no fun h => l3 (by simp [h]))
  by_cases l4 : p.windows.length = q.windows.length
  rotate_left
  · have e : ¬ (p.windows.length : Int) = q.windows.length := by omega
    simp [h0, h1, l2, l3, e, hS.P]
    exact fin false (no fun h => l4 (by simp [h]))
  by_cases l5 : p.links.length = q.links.length
  rotate_left
  · have e : ¬ (p.links.length : Int) = q.links.length := by omega
    simp [h0, h1, l2, l3, l4, e, hS.P]
    exact fin false (no fun h => l5 (by simp [h]))
  simp [h0, h1, l2, l3, l4, l5, hS.P]
  generalize hK : (AH.put _ (H.nx + 1) _) = K
  have g0 : K.get H.nx = .row [encConf p] 6 0 := by rw [← hK]; simp
  have g1 : K.get (H.nx + 1) = .row [encConf q] 6 0 := by rw [← hK]; simp
  have hk : ∀ i, H.get i ≠ .free → K.get i = H.get i := by rw [← hK]; exact put_keeps f1 (put_keeps (by simp) (keeps_refl H))
  have fin : ∀ (b : Bool), b = decide (p = q) → Leave X H (.bool b) K fun v' H' => v' = .bool (decide (p = q)) ∧ H' = H := fun b hb => Leave.data hk (by simp) ⟨by rw [hb], rfl⟩
  refine AWp.loop (S := Nat) (fun n => n ≤ p.parts.length ∧ p.parts.take n = q.parts.take n)
    (fun n => [(2, .ptr H.nx 0 0 0), (3, .ptr (H.nx + 1) 0 0 0), (5, .int .i64 n)]) (fun _ => K) (fun n => p.parts.length - n) 0 ⟨Nat.zero_le _, by simp⟩ (Wk.regs (by simp)) fun n hs => ?_
  obtain ⟨hn, hF⟩ := hs
  have hz := hp.parts
  refine aC_sound (lv := []) _ _ _ _ ?_
  simp [hS.P, g0, g1]
  refine aCond_dec (fun hlt => ?_) (fun hge => ?_)
  · obtain ⟨x, hx⟩ : ∃ x, p.parts[n]? = some x := ⟨p.parts[n], List.getElem?_eq_getElem (by omega)⟩
    obtain ⟨y, hy⟩ : ∃ y, q.parts[n]? = some y := ⟨q.parts[n], List.getElem?_eq_getElem (by omega)⟩
    simp [hS.P]
    rw [aC_draw (hc := by kernel_rfl)]
    simp [hS.P, g0, g1, hx, hy]
    refine (rplanSame_spec hS x y (hp.part x (List.mem_of_getElem? hx)) (hq.part y (List.mem_of_getElem? hy))).call ?_
    simp [hS.P]
    refine aIf_mk (chkH_reads (by simp)) ?_
    simp [hS.P]
    refine aCond_mk (fun hc => ?_) (fun hc => ?_)
    · have h : x ≠ y := by rintro rfl; simp at hc
      have hab : ¬ p.parts = q.parts := fun e => by rw [e, hy] at hx; cases hx; exact h rfl
      simp [hS.P]
      exact fin false (no fun h => hab (by simp [h]))
    · have h : x = y := by simpa using hc
      subst h
      simp [hS.P]
      exact ⟨n + 1, ⟨by omega, by simp [List.take_add_one, hF, hx, hy]⟩, by omega, Wk.regs (by simp [wrap1 (n := n) (by omega)])⟩
  have hn' : n = p.parts.length := by omega
  have e2 : p.parts = q.parts := by rw [hn', List.take_length, l2, List.take_length] at hF; exact hF
  clear hF hz hge hn hn'
  simp [hS.P]
  refine AWp.loop (S := Nat) (fun n => n ≤ p.homes.length ∧ p.homes.take n = q.homes.take n)
    (fun n => [(2, .ptr H.nx 0 0 0), (3, .ptr (H.nx + 1) 0 0 0), (6, .int .i64 n)]) (fun _ => K) (fun n => p.homes.length - n) 0 ⟨Nat.zero_le _, by simp⟩ (Wk.regs (by simp)) fun n hs => ?_
  obtain ⟨hn, hF⟩ := hs
  have hz := hp.homes
  refine aC_sound (lv := []) _ _ _ _ ?_
  simp [hS.P, g0, g1]
  refine aCond_dec (fun hlt => ?_) (fun hge => ?_)
  · obtain ⟨x, hx⟩ : ∃ x, p.homes[n]? = some x := ⟨p.homes[n], List.getElem?_eq_getElem (by omega)⟩
    obtain ⟨y, hy⟩ : ∃ y, q.homes[n]? = some y := ⟨q.homes[n], List.getElem?_eq_getElem (by omega)⟩
    simp [hS.P]
    rw [aC_draw (hc := by kernel_rfl)]
    simp [hS.P, g0, g1, hx, hy, allEq, eqK, encInt]
    refine aIf_mk (chkH_reads (by simp)) ?_
    simp [hS.P]
    refine aCond_mk (fun hc => ?_) (fun hc => ?_)
    · have h : x ≠ y := by rintro rfl; simp at hc
      have hab : ¬ p.homes = q.homes := fun e => by rw [e, hy] at hx; cases hx; exact h rfl
      simp [hS.P]
      exact fin false (no fun h => hab (by simp [h]))
    · have h : x = y := by simpa using hc
      subst h
      simp [hS.P]
      exact ⟨n + 1, ⟨by omega, by simp [List.take_add_one, hF, hx, hy]⟩, by omega, Wk.regs (by simp [wrap1 (n := n) (by omega)])⟩
  have hn' : n = p.homes.length := by omega
  have e3 : p.homes = q.homes := by rw [hn', List.take_length, l3, List.take_length] at hF; exact hF
  clear hF hz hge hn hn'
  simp [hS.P]
  refine AWp.loop (S := Nat) (fun n => n ≤ p.windows.length ∧ p.windows.take n = q.windows.take n)
    (fun n => [(2, .ptr H.nx 0 0 0), (3, .ptr (H.nx + 1) 0 0 0), (7, .int .i64 n)]) (fun _ => K) (fun n => p.windows.length - n) 0 ⟨Nat.zero_le _, by simp⟩ (Wk.regs (by simp)) fun n hs => ?_
  obtain ⟨hn, hF⟩ := hs
  have hz := hp.windows
  refine aC_sound (lv := []) _ _ _ _ ?_
  simp [hS.P, g0, g1]
  refine aCond_dec (fun hlt => ?_) (fun hge => ?_)
  · obtain ⟨x, hx⟩ : ∃ x, p.windows[n]? = some x := ⟨p.windows[n], List.getElem?_eq_getElem (by omega)⟩
    obtain ⟨y, hy⟩ : ∃ y, q.windows[n]? = some y := ⟨q.windows[n], List.getElem?_eq_getElem (by omega)⟩
    simp [hS.P]
    rw [aC_draw (hc := by kernel_rfl)]
    simp [hS.P, g0, g1, hx, hy, allEq, eqK]
    refine aIf_mk (chkH_reads (by simp)) ?_
    simp [hS.P]
    refine aCond_mk (fun hc => ?_) (fun hc => ?_)
    · have h : x ≠ y := by rintro rfl; simp at hc
      have hab : ¬ p.windows = q.windows := fun e => by rw [e, hy] at hx; cases hx; exact h rfl
      simp [hS.P]
      exact fin false (no fun h => hab (by simp [h]))
    · have h : x = y := by cases x; cases y; simp at hc; simp [hc]
      subst h
      simp [hS.P]
      exact ⟨n + 1, ⟨by omega, by simp [List.take_add_one, hF, hx, hy]⟩, by omega, Wk.regs (by simp [wrap1 (n := n) (by omega)])⟩
  have hn' : n = p.windows.length := by omega
  have e4 : p.windows = q.windows := by rw [hn', List.take_length, l4, List.take_length] at hF; exact hF
  clear hF hz hge hn hn'
  simp [hS.P]
  refine AWp.loop (S := Nat) (fun n => n ≤ p.links.length ∧ p.links.take n = q.links.take n)
    (fun n => [(2, .ptr H.nx 0 0 0), (3, .ptr (H.nx + 1) 0 0 0), (8, .int .i64 n)]) (fun _ => K) (fun n => p.links.length - n) 0 ⟨Nat.zero_le _, by simp⟩ (Wk.regs (by simp)) fun n hs => ?_
  obtain ⟨hn, hF⟩ := hs
  have hz := hp.links
  refine aC_sound (lv := []) _ _ _ _ ?_
  simp [hS.P, g0, g1]
  refine aCond_dec (fun hlt => ?_) (fun hge => ?_)
  · obtain ⟨x, hx⟩ : ∃ x, p.links[n]? = some x := ⟨p.links[n], List.getElem?_eq_getElem (by omega)⟩
    obtain ⟨y, hy⟩ : ∃ y, q.links[n]? = some y := ⟨q.links[n], List.getElem?_eq_getElem (by omega)⟩
    simp [hS.P]
    rw [aC_draw (hc := by kernel_rfl)]
    simp [hS.P, g0, g1, hx, hy, allEq, eqK]
    refine aIf_mk (chkH_reads (by simp)) ?_
    simp [hS.P]
    refine aCond_mk (fun hc => ?_) (fun hc => ?_)
    · have h : x ≠ y := by rintro rfl; simp at hc
      have hab : ¬ p.links = q.links := fun e => by rw [e, hy] at hx; cases hx; exact h rfl
      simp [hS.P]
      exact fin false (no fun h => hab (by simp [h]))
    · have h : x = y := by cases x; cases y; simp at hc; simp [hc]
      subst h
      simp [hS.P]
      exact ⟨n + 1, ⟨by omega, by simp [List.take_add_one, hF, hx, hy]⟩, by omega, Wk.regs (by simp [wrap1 (n := n) (by omega)])⟩
  have hn' : n = p.links.length := by omega
  have e5 : p.links = q.links := by rw [hn', List.take_length, l5, List.take_length] at hF; exact hF
  clear hF hz hge hn hn'
  simp [hS.P]
  exact fin true (by rw [eq_comm, decide_eq_true_iff, ← iff]; exact ⟨h0, h1, e2, e3, e4, e5⟩)
end Go.Proofs.YtndoembhbfiokaaDoor.Am
set_option linter.unusedVariables false
set_option linter.unusedSimpArgs false
namespace Go.Proofs.YtndoembhbfiokaaDoor.Am
open Go.RowKit Go.Proofs

set_option maxRecDepth 8000 in
theorem frameChecks_spec {X : Ctx} (hS : Sent X) (x : CaseD) (hx : x.Small) : ACalc X 7 [encCase x] (.bool true) := by
  intro H
  refine acalls' (N := 65) (rs := [.tmp 2]) [] (by rw [hS.P]; exact Tryd.func7) rfl rfl rfl (by decide) (by simp) ?_
  have hk0 : ∀ i, H.get i ≠ .free → ((H.put H.nx (.row [encCase x] 15 0)).get i = H.get i) := put_keeps (by simp) (keeps_refl H)
  simp [entryR, hS.P]
  refine (fixed14_spec hS).go ?_
  simp [hS.P]
  have w1 : IntKind.i64.wrap 1 = 1 := by decide
  have w2 : IntKind.i64.wrap 2 = 2 := by decide
  refine AWp.loop (S := Nat × AH) (fun s => s.1 ≤ 2 ∧ s.2.get H.nx = .row [encCase x] 15 0 ∧ ∀ i, H.get i ≠ .free → s.2.get i = H.get i)
    (fun s => [(1, .ptr H.nx 0 0 0), (3, .csl [encConf x.c, encConf x.d]), (4, .int .i64 s.1)]) (fun s => s.2) (fun s => 2 - s.1) (0, _) ⟨by simp, by simp, hk0⟩ (Wk.regs (by simp; exact Le.refl _)) fun s hs => ?_
  obtain ⟨n, K⟩ := s
  obtain ⟨hn, hg, hk⟩ := hs
  simp only at hn hg hk
  have hne : ¬ H.nx = K.nx := fun h => by have := AH.lt_nx (AH.ne_free hg); omega
  refine aC_sound (lv := []) _ _ _ _ ?_
  simp [hS.P]
  have hcases : n = 0 ∨ n = 1 ∨ n = 2 := by omega
  rcases hcases with rfl | rfl | rfl
  · simp [hS.P, hg]
    refine (rconfCheck_spec hS x.c hx.c).go ?_
    simp [hS.P, hg]
    refine (confCopy_spec hS x.c hx.c).go ?_
    simp [hS.P, hg]
    refine (frameCheck_spec hS x.c hx.c).go ?_
    simp [hS.P, hg]
    rw [aC_draw (hc := by kernel_rfl)]
    simp [hS.P, hg]
    refine (code_spec hS (confE x.c) (confE_ok x.c)).call ?_
    simp [hS.P, hg, encPR, encR]
    refine (place_spec hS (confE x.c)).call ?_
    simp [hS.P, hg, encPR, encR]
    refine aIf_mk (chkH_reads (by simp)) ?_
    simp [hS.P, w1]
    exact ⟨1, _, ⟨by omega, by simp [hne, hg], put_keeps (keepsNx hk) hk⟩, by omega, Wk.regs (by simp)⟩
  · simp [hS.P, hg]
    refine (rconfCheck_spec hS x.d hx.d).go ?_
    simp [hS.P, hg]
    refine (confCopy_spec hS x.d hx.d).go ?_
    simp [hS.P, hg]
    refine (frameCheck_spec hS x.d hx.d).go ?_
    simp [hS.P, hg]
    rw [aC_draw (hc := by kernel_rfl)]
    simp [hS.P, hg]
    refine (code_spec hS (confE x.d) (confE_ok x.d)).call ?_
    simp [hS.P, hg, encPR, encR]
    refine (place_spec hS (confE x.d)).call ?_
    simp [hS.P, hg, encPR, encR]
    refine aIf_mk (chkH_reads (by simp)) ?_
    simp [hS.P, w2]
    exact ⟨2, _, ⟨by omega, by simp [hne, hg], put_keeps (keepsNx hk) hk⟩, by omega, Wk.regs (by simp)⟩
  · simp [hS.P, hg]
    rw [aC_draw (hc := by kernel_rfl)]
    simp [hS.P, hg]
    refine (confCopy_spec hS x.c hx.c).call ?_
    simp [hS.P, hg]
    refine (confCopy_spec hS x.d hx.d).call ?_
    simp [hS.P, hg]
    refine (confSame_spec hS x.c x.d hx.c hx.d).call ?_
    simp [hS.P, hg]
    refine (rconfSame_spec hS x.c x.d hx.c hx.d).call ?_
    simp [hS.P, hg]
    refine (confCopy_spec hS x.c hx.c).call ?_
    simp [hS.P, hg]
    refine (confCopy_spec hS x.c hx.c).call ?_
    simp [hS.P, hg]
    refine (confSame_spec hS x.c x.c hx.c hx.c).call ?_
    simp [hS.P, hg]
    refine aIf_mk (chkH_reads (by simp)) ?_
    simp [hS.P]
    exact Leave.data hk (by simp) ⟨rfl, rfl⟩
end Go.Proofs.YtndoembhbfiokaaDoor.Am
