/- The logic and the contracts that the laws stand on, part 19. -/
import Derived.Test.YtndoembhbfiokaaGreatDoorAar
set_option linter.unusedVariables false
set_option linter.unusedSimpArgs false
namespace Go.Proofs.YtndoembhbfiokaaGreatDoor.Am
open Go.RowKit Go.Proofs

def bootsK (hs : List Int) (n : Int) (k : Nat) : List Int := ((List.range k).filter fun j => decide (hs[j]? = some n)).map Int.ofNat
theorem bootsK_len (hs : List Int) (n : Int) (k : Nat) : (bootsK hs n k).length ≤ k := by
  unfold bootsK
  rw [List.length_map]
  exact Nat.le_trans (List.length_filter_le _ _) (by simp)
theorem bootsK_step {hs : List Int} {k : Nat} {x : Int} (h : hs[k]? = some x) (n : Int) : bootsK hs n (k + 1) = bootsK hs n k ++ if x = n then [(k : Int)] else [] := by
  unfold bootsK
  rw [List.range_succ, List.filter_append, List.map_append]
  congr 1
  by_cases e : x = n <;> simp [h, e]
noncomputable def bootErr (c : ConfD) (n : Int) : PE := if confE c ≠ .none then .bare 8 else if n = 0 ∨ n = 1 then .none else .bare 12
noncomputable def bootAns14 (c : ConfD) (n : Int) : List Int := if bootErr c n = .none then bootsK c.homes n c.homes.length else []
theorem bootErr_ok (c : ConfD) (n : Int) : (bootErr c n).Ok := by unfold bootErr; split <;> (try split) <;> simp [PE.Ok]
theorem rWindows_spec {X : Ctx} (hS : Sent X) (c : ConfD) (hc : c.Small) (n : Int) : ACalc X 37 [encConf c, .int .i64 n] (.tup [.fsl ((winAns c n).map encWin), .int .i64 (ownErr c n).code]) := by
  intro H
  refine acalls' (N := 39) (rs := [.tmp 4, .tmp 5]) [37] (by rw [hS.P]; exact Tryz.func37) rfl rfl rfl (by decide) (by simp) ?_
  have fin : ∀ {K : AH} (e : PE), (∀ i, H.get i ≠ .free → K.get i = H.get i) → e ≠ .none → ownErr c n = e → Leave X H (.tup [.csl [], .int .i64 e.code]) K fun v' H' => v' = .tup [.fsl ((winAns c n).map encWin), .int .i64 (ownErr c n).code] ∧ H' = H := fun e hk he h => by
    refine Leave.le (v' := .tup [.fsl [], .int .i64 e.code]) (Le.tupL ⟨Le.csl [], Le.refl _, trivial⟩) ?_
    refine Leave.data hk (by simp) ⟨?_, rfl⟩
    rw [h]; simp [winAns, h, he]
  have hk00 : ∀ i, H.get i ≠ .free → (H.put H.nx (.row [encConf c] 6 0)).get i = H.get i := put_keeps (by simp) (keeps_refl H)
  simp [entryR, hS.P]
  refine (rconfGood_spec hS c hc).go ?_
  by_cases he : confE c = .none
  rotate_left
  · simp [hS.P, he]
    exact fin (.bare 8) hk00 (by simp) (by simp only [ownErr]; rw [if_pos he])
  simp [hS.P, he]
  refine (rowner_spec hS c n).go ?_
  by_cases ho : -1 ≤ n ∧ n < c.parts.length
  rotate_left
  · simp [hS.P, ho]
    exact fin (.bare 12) hk00 (by simp) (by simp only [ownErr]; rw [if_neg (by simp [he]), if_neg ho])
  have hE : ownErr c n = .none := by simp only [ownErr]; rw [if_neg (by simp [he]), if_pos ho]
  simp [hS.P, ho]
  generalize hK : (AH.put H H.nx _) = K0
  have g0 : K0.get H.nx = .row [encConf c] 6 0 := by rw [← hK]; simp
  have hk0 : ∀ i, H.get i ≠ .free → K0.get i = H.get i := by rw [← hK]; exact put_keeps (by simp) (keeps_refl H)
  have n0 : ¬ H.nx = K0.nx := fun h => by have := AH.lt_nx (AH.ne_free g0); omega
  refine AWp.loop (S := Nat × AH) (fun s => s.1 ≤ c.windows.length ∧ s.2.get H.nx = .row [encConf c] 6 0 ∧ s.2.get K0.nx = .row (((c.windows.take s.1).filter fun w => decide (w.part = n)).map encWin) 3 (((c.windows.take s.1).filter fun w => decide (w.part = n)).length) ∧ ∀ i, H.get i ≠ .free → s.2.get i = H.get i)
    (fun s => [(1, .int .i64 n), (2, .ptr H.nx 0 0 0), (6, .sl K0.nx (((c.windows.take s.1).filter fun w => decide (w.part = n)).length) 0 (((c.windows.take s.1).filter fun w => decide (w.part = n)).length)), (7, .int .i64 s.1)]) (fun s => s.2) (fun s => c.windows.length - s.1) (0, K0.put K0.nx (.row [] 3 0))
    ⟨Nat.zero_le _, by simp [n0, g0], by simp, put_keeps (keepsNx hk0) hk0⟩ ?_ fun s hs => ?_
  · exact Wk.mat (id := K0.nx) 3 (AH.fresh K0) (by simp [Mat])
  obtain ⟨k, K⟩ := s
  obtain ⟨hn, gc, hg, hk⟩ := hs
  simp only at hn hk hg gc
  have hl := hc.windows
  refine aC_sound (lv := [37]) _ _ _ _ ?_
  simp [hS.P, gc]
  refine aCond_dec (fun hlt => ?_) (fun hge => ?_)
  · obtain ⟨x, hx⟩ : ∃ x, c.windows[k]? = some x := ⟨c.windows[k], List.getElem?_eq_getElem hlt⟩
    have hfl : ((c.windows.take k).filter fun w => decide (w.part = n)).length ≤ k := Nat.le_trans (List.length_filter_le _ _) (by simp; omega)
    have ht : c.windows.take (k + 1) = c.windows.take k ++ [x] := by simp [List.take_add_one, hx]
    simp [hS.P, hx, gc]
    by_cases hp : x.part = n
    · simp [hS.P, hp, hg, gc, hx]
      refine aIf_mk (by omega) ?_
      simp [hS.P]
      refine ⟨k + 1, _, ⟨hlt, by simp [n0, gc], by simp [ht, List.filter_append, hp, encWin], put_keeps (keepsNx hk0) hk⟩, by omega, Wk.regs (by simp [wrap1 (n := k) (by omega), ht, List.filter_append, hp])⟩
    · simp [hS.P, hp]
      refine ⟨k + 1, _, ⟨hlt, gc, by simp [ht, List.filter_append, hp, hg], hk⟩, by omega, Wk.regs (by simp [wrap1 (n := k) (by omega), ht, List.filter_append, hp])⟩
  · obtain rfl : k = c.windows.length := by omega
    rw [List.take_length] at hg
    simp [hS.P]
    refine Leave.frz hg (v' := .tup [.fsl ((winAns c n).map encWin), .int .i64 0]) (.tup _ _ rfl fun j x y h1 h2 => ?_) ?_
    · rcases j with _ | _ | j <;> simp at h1 h2
      · subst h1 h2
        have : winAns c n = c.windows.filter fun w => decide (w.part = n) := by simp [winAns, hE, winsOf]
        rw [this]
        exact Frz.all (by simp)
      · subst h1 h2; exact .refl _
    · exact Leave.data (put_keeps (keepsNx hk0) hk) (by simp) ⟨by simp [hE, PE.code], rfl⟩
theorem rBoots_spec {X : Ctx} (hS : Sent X) (c : ConfD) (hc : c.Small) (n : Int) : ACalc X 40 [encConf c, .int .i64 n] (.tup [.fsl ((bootAns14 c n).map encInt), .int .i64 (bootErr c n).code]) := by
  intro H
  refine acalls' (N := 36) (rs := [.tmp 4, .tmp 5]) [34] (by rw [hS.P]; exact Tryz.func40) rfl rfl rfl (by decide) (by simp) ?_
  have fin : ∀ {K : AH} (e : PE), (∀ i, H.get i ≠ .free → K.get i = H.get i) → e ≠ .none → bootErr c n = e → Leave X H (.tup [.csl [], .int .i64 (e).code]) K fun v' H' => v' = .tup [.fsl ((bootAns14 c n).map encInt), .int .i64 (bootErr c n).code] ∧ H' = H := fun e hk he h => by
    refine Leave.le (v' := .tup [.fsl [], .int .i64 (e).code]) (Le.tupL ⟨Le.csl [], Le.refl _, trivial⟩) ?_
    refine Leave.data hk (by simp) ⟨?_, rfl⟩
    rw [h]; simp [bootAns14, h, he]
  have hk00 : ∀ i, H.get i ≠ .free → (H.put H.nx (.row [encConf c] 6 0)).get i = H.get i := put_keeps (by simp) (keeps_refl H)
  simp [entryR, hS.P]
  refine (rconfGood_spec hS c hc).go ?_
  by_cases he : confE c = .none
  rotate_left
  · simp [hS.P, he]
    exact fin (.bare 8) hk00 (by simp) (by simp only [bootErr]; rw [if_pos he])
  simp [hS.P, he, encErr]
  by_cases ho : n = 0 ∨ n = 1
  rotate_left
  · have o1 : ¬ n = 0 := fun h => ho (.inl h)
    have o2 : ¬ n = 1 := fun h => ho (.inr h)
    simp [hS.P, o1, o2]
    exact fin (.bare 12) hk00 (by simp) (by simp only [bootErr]; rw [if_neg (by simp [he]), if_neg ho])
  have hE : bootErr c n = .none := by simp only [bootErr]; rw [if_neg (by simp [he]), if_pos ho]
  rcases ho with rfl | rfl
  · simp [hS.P]
    generalize hK : (AH.put H H.nx _) = K0
    have g0 : K0.get H.nx = .row [encConf c] 6 0 := by rw [← hK]; simp; try rfl
    have hk0 : ∀ i, H.get i ≠ .free → K0.get i = H.get i := by rw [← hK]; exact put_keeps (by simp) (keeps_refl H)
    have n0 : ¬ H.nx = K0.nx := fun h => by have := AH.lt_nx (AH.ne_free g0); omega
    try simp [hS.P, g0]
    refine AWp.loop (S := Nat × AH) (fun s => s.1 ≤ c.homes.length ∧ s.2.get H.nx = .row [encConf c] 6 0 ∧ s.2.get K0.nx = .row ((bootsK c.homes 0 s.1).map encInt) 1 (bootsK c.homes 0 s.1).length ∧ ∀ i, H.get i ≠ .free → s.2.get i = H.get i)
      (fun s => [(1, .int .i64 0), (2, .ptr H.nx 0 0 0), (6, .sl K0.nx (bootsK c.homes 0 s.1).length 0 (bootsK c.homes 0 s.1).length), (7, .int .i64 s.1)]) (fun s => s.2) (fun s => c.homes.length - s.1) (0, K0.put K0.nx (.row [] 1 0))
      ⟨Nat.zero_le _, by simp [n0, g0], by simp [bootsK], put_keeps (keepsNx hk0) hk0⟩ ?_ fun s hs => ?_
    · exact Wk.mat (id := K0.nx) 1 (AH.fresh K0) (by simp [Mat, bootsK])
    obtain ⟨k, K⟩ := s
    obtain ⟨hn, gc, hg, hk⟩ := hs
    simp only at hn hk hg gc
    have hl := hc.homes
    refine aC_sound (lv := [34]) _ _ _ _ ?_
    simp [hS.P, gc]
    refine aCond_dec (fun hlt => ?_) (fun hge => ?_)
    · obtain ⟨x, hx⟩ : ∃ x, c.homes[k]? = some x := ⟨c.homes[k], List.getElem?_eq_getElem hlt⟩
      have hfl := bootsK_len c.homes 0 k
      have ht := bootsK_step hx 0
      simp [hS.P, hx, gc, encInt]
      by_cases hp : x = 0
      · simp [hS.P, hp, hg, gc, hx]
        refine aIf_mk (by omega) ?_
        simp [hS.P]
        rw [if_pos hp] at ht
        refine ⟨k + 1, _, ⟨hlt, by simp [n0, gc], by simp [ht, encInt], put_keeps (keepsNx hk0) hk⟩, by omega, Wk.regs (by simp [wrap1 (n := k) (by omega), ht])⟩
      · simp [hS.P, hp]
        rw [if_neg hp, List.append_nil] at ht
        refine ⟨k + 1, _, ⟨hlt, gc, by rw [ht]; exact hg, hk⟩, by omega, Wk.regs (by simp [wrap1 (n := k) (by omega), ht])⟩
    · obtain rfl : k = c.homes.length := by omega
      simp [hS.P]
      refine Leave.frz hg (v' := .tup [.fsl ((bootAns14 c 0).map encInt), .int .i64 0]) (.tup _ _ rfl fun j x y h1 h2 => ?_) ?_
      · rcases j with _ | _ | j <;> simp at h1 h2
        · subst h1 h2
          have : bootAns14 c 0 = bootsK c.homes 0 c.homes.length := by simp [bootAns14, hE]
          rw [this]
          exact Frz.all (by simp)
        · subst h1 h2; exact .refl _
      · exact Leave.data (put_keeps (keepsNx hk0) hk) (by simp [encInt]) ⟨by simp [hE, encErr, PE.code], rfl⟩
  · simp [hS.P]
    generalize hK : (AH.put H H.nx _) = K0
    have g0 : K0.get H.nx = .row [encConf c] 6 0 := by rw [← hK]; simp; try rfl
    have hk0 : ∀ i, H.get i ≠ .free → K0.get i = H.get i := by rw [← hK]; exact put_keeps (by simp) (keeps_refl H)
    have n0 : ¬ H.nx = K0.nx := fun h => by have := AH.lt_nx (AH.ne_free g0); omega
    try simp [hS.P, g0]
    refine AWp.loop (S := Nat × AH) (fun s => s.1 ≤ c.homes.length ∧ s.2.get H.nx = .row [encConf c] 6 0 ∧ s.2.get K0.nx = .row ((bootsK c.homes 1 s.1).map encInt) 1 (bootsK c.homes 1 s.1).length ∧ ∀ i, H.get i ≠ .free → s.2.get i = H.get i)
      (fun s => [(1, .int .i64 1), (2, .ptr H.nx 0 0 0), (6, .sl K0.nx (bootsK c.homes 1 s.1).length 0 (bootsK c.homes 1 s.1).length), (7, .int .i64 s.1)]) (fun s => s.2) (fun s => c.homes.length - s.1) (0, K0.put K0.nx (.row [] 1 0))
      ⟨Nat.zero_le _, by simp [n0, g0], by simp [bootsK], put_keeps (keepsNx hk0) hk0⟩ ?_ fun s hs => ?_
    · exact Wk.mat (id := K0.nx) 1 (AH.fresh K0) (by simp [Mat, bootsK])
    obtain ⟨k, K⟩ := s
    obtain ⟨hn, gc, hg, hk⟩ := hs
    simp only at hn hk hg gc
    have hl := hc.homes
    refine aC_sound (lv := [34]) _ _ _ _ ?_
    simp [hS.P, gc]
    refine aCond_dec (fun hlt => ?_) (fun hge => ?_)
    · obtain ⟨x, hx⟩ : ∃ x, c.homes[k]? = some x := ⟨c.homes[k], List.getElem?_eq_getElem hlt⟩
      have hfl := bootsK_len c.homes 1 k
      have ht := bootsK_step hx 1
      simp [hS.P, hx, gc, encInt]
      by_cases hp : x = 1
      · simp [hS.P, hp, hg, gc, hx]
        refine aIf_mk (by omega) ?_
        simp [hS.P]
        rw [if_pos hp] at ht
        refine ⟨k + 1, _, ⟨hlt, by simp [n0, gc], by simp [ht, encInt], put_keeps (keepsNx hk0) hk⟩, by omega, Wk.regs (by simp [wrap1 (n := k) (by omega), ht])⟩
      · simp [hS.P, hp]
        rw [if_neg hp, List.append_nil] at ht
        refine ⟨k + 1, _, ⟨hlt, gc, by rw [ht]; exact hg, hk⟩, by omega, Wk.regs (by simp [wrap1 (n := k) (by omega), ht])⟩
    · obtain rfl : k = c.homes.length := by omega
      simp [hS.P]
      refine Leave.frz hg (v' := .tup [.fsl ((bootAns14 c 1).map encInt), .int .i64 0]) (.tup _ _ rfl fun j x y h1 h2 => ?_) ?_
      · rcases j with _ | _ | j <;> simp at h1 h2
        · subst h1 h2
          have : bootAns14 c 1 = bootsK c.homes 1 c.homes.length := by simp [bootAns14, hE]
          rw [this]
          exact Frz.all (by simp)
        · subst h1 h2; exact .refl _
      · exact Leave.data (put_keeps (keepsNx hk0) hk) (by simp [encInt]) ⟨by simp [hE, encErr, PE.code], rfl⟩
theorem frameBoots_spec {X : Ctx} (hS : Sent X) (c : ConfD) (hc : c.Small) (n : Int) : ACalc X 41 [encConf c, .int .i64 n] (.tup [.fsl ((bootAns14 c n).map encInt), encErr (bootErr c n)]) := by
  intro H
  refine acalls' (N := 37) (rs := [.tmp 4, .tmp 5]) [34] (by rw [hS.P]; exact Tryz.func41) rfl rfl rfl (by decide) (by simp) ?_
  have fin : ∀ {K : AH} (e : PE), (∀ i, H.get i ≠ .free → K.get i = H.get i) → e ≠ .none → bootErr c n = e → Leave X H (.tup [.csl [], encErr (e)]) K fun v' H' => v' = .tup [.fsl ((bootAns14 c n).map encInt), encErr (bootErr c n)] ∧ H' = H := fun e hk he h => by
    refine Leave.le (v' := .tup [.fsl [], encErr (e)]) (Le.tupL ⟨Le.csl [], Le.refl _, trivial⟩) ?_
    refine Leave.data hk (by simp) ⟨?_, rfl⟩
    rw [h]; simp [bootAns14, h, he]
  have hk00 : ∀ i, H.get i ≠ .free → (H.put H.nx (.row [encConf c] 6 0)).get i = H.get i := put_keeps (by simp) (keeps_refl H)
  simp [entryR, hS.P]
  refine (frameCheck_spec hS c hc).go ?_
  by_cases he : confE c = .none
  rotate_left
  · obtain ⟨T, v, hT⟩ := encErr_iface he
    simp [hS.P, hT]
    rw [aC_draw (hc := by kernel_rfl)]
    simp [hS.P, hS.e8]
    exact fin (.bare 8) hk00 (by simp) (by simp only [bootErr]; rw [if_pos he])
  simp [hS.P, he, encErr]
  by_cases ho : n = 0 ∨ n = 1
  rotate_left
  · have o1 : ¬ n = 0 := fun h => ho (.inl h)
    have o2 : ¬ n = 1 := fun h => ho (.inr h)
    simp [hS.P, o1, o2]
    rw [aC_draw (hc := by kernel_rfl)]
    simp [hS.P, hS.e12]
    exact fin (.bare 12) hk00 (by simp) (by simp only [bootErr]; rw [if_neg (by simp [he]), if_neg ho])
  have hE : bootErr c n = .none := by simp only [bootErr]; rw [if_neg (by simp [he]), if_pos ho]
  rcases ho with rfl | rfl
  · simp [hS.P]
    generalize hK : (AH.put H H.nx _) = K0
    have g0 : K0.get H.nx = .row [encConf c] 6 0 := by rw [← hK]; simp; try rfl
    have hk0 : ∀ i, H.get i ≠ .free → K0.get i = H.get i := by rw [← hK]; exact put_keeps (by simp) (keeps_refl H)
    have n0 : ¬ H.nx = K0.nx := fun h => by have := AH.lt_nx (AH.ne_free g0); omega
    try simp [hS.P, g0]
    refine AWp.loop (S := Nat × AH) (fun s => s.1 ≤ c.homes.length ∧ s.2.get H.nx = .row [encConf c] 6 0 ∧ s.2.get K0.nx = .row ((bootsK c.homes 0 s.1).map encInt) 1 (bootsK c.homes 0 s.1).length ∧ ∀ i, H.get i ≠ .free → s.2.get i = H.get i)
      (fun s => [(1, .int .i64 0), (2, .ptr H.nx 0 0 0), (6, .sl K0.nx (bootsK c.homes 0 s.1).length 0 (bootsK c.homes 0 s.1).length), (21, .fsl (c.homes.map encInt)), (22, .int .i64 c.homes.length), (23, .int .i64 s.1)]) (fun s => s.2) (fun s => c.homes.length - s.1) (0, K0.put K0.nx (.row [] 1 0))
      ⟨Nat.zero_le _, by simp [n0, g0], by simp [bootsK], put_keeps (keepsNx hk0) hk0⟩ ?_ fun s hs => ?_
    · exact Wk.mat (id := K0.nx) 1 (AH.fresh K0) (by simp [Mat, bootsK])
    obtain ⟨k, K⟩ := s
    obtain ⟨hn, gc, hg, hk⟩ := hs
    simp only at hn hk hg gc
    have hl := hc.homes
    refine aC_sound (lv := [34]) _ _ _ _ ?_
    simp [hS.P, gc]
    refine aCond_dec (fun hlt => ?_) (fun hge => ?_)
    · obtain ⟨x, hx⟩ : ∃ x, c.homes[k]? = some x := ⟨c.homes[k], List.getElem?_eq_getElem hlt⟩
      have hfl := bootsK_len c.homes 0 k
      have ht := bootsK_step hx 0
      simp [hS.P, hx, gc, encInt]
      by_cases hp : x = 0
      · simp [hS.P, hp, hg, gc, hx]
        refine aIf_mk (by omega) ?_
        simp [hS.P]
        rw [if_pos hp] at ht
        refine ⟨k + 1, _, ⟨hlt, by simp [n0, gc], by simp [ht, encInt], put_keeps (keepsNx hk0) hk⟩, by omega, Wk.regs (by simp [wrap1 (n := k) (by omega), ht])⟩
      · simp [hS.P, hp]
        rw [if_neg hp, List.append_nil] at ht
        refine ⟨k + 1, _, ⟨hlt, gc, by rw [ht]; exact hg, hk⟩, by omega, Wk.regs (by simp [wrap1 (n := k) (by omega), ht])⟩
    · obtain rfl : k = c.homes.length := by omega
      simp [hS.P]
      refine Leave.frz hg (v' := .tup [.fsl ((bootAns14 c 0).map encInt), .nili]) (.tup _ _ rfl fun j x y h1 h2 => ?_) ?_
      · rcases j with _ | _ | j <;> simp at h1 h2
        · subst h1 h2
          have : bootAns14 c 0 = bootsK c.homes 0 c.homes.length := by simp [bootAns14, hE]
          rw [this]
          exact Frz.all (by simp)
        · subst h1 h2; exact .refl _
      · exact Leave.data (put_keeps (keepsNx hk0) hk) (by simp [encInt]) ⟨by simp [hE, encErr, PE.code], rfl⟩
  · simp [hS.P]
    generalize hK : (AH.put H H.nx _) = K0
    have g0 : K0.get H.nx = .row [encConf c] 6 0 := by rw [← hK]; simp; try rfl
    have hk0 : ∀ i, H.get i ≠ .free → K0.get i = H.get i := by rw [← hK]; exact put_keeps (by simp) (keeps_refl H)
    have n0 : ¬ H.nx = K0.nx := fun h => by have := AH.lt_nx (AH.ne_free g0); omega
    try simp [hS.P, g0]
    refine AWp.loop (S := Nat × AH) (fun s => s.1 ≤ c.homes.length ∧ s.2.get H.nx = .row [encConf c] 6 0 ∧ s.2.get K0.nx = .row ((bootsK c.homes 1 s.1).map encInt) 1 (bootsK c.homes 1 s.1).length ∧ ∀ i, H.get i ≠ .free → s.2.get i = H.get i)
      (fun s => [(1, .int .i64 1), (2, .ptr H.nx 0 0 0), (6, .sl K0.nx (bootsK c.homes 1 s.1).length 0 (bootsK c.homes 1 s.1).length), (21, .fsl (c.homes.map encInt)), (22, .int .i64 c.homes.length), (23, .int .i64 s.1)]) (fun s => s.2) (fun s => c.homes.length - s.1) (0, K0.put K0.nx (.row [] 1 0))
      ⟨Nat.zero_le _, by simp [n0, g0], by simp [bootsK], put_keeps (keepsNx hk0) hk0⟩ ?_ fun s hs => ?_
    · exact Wk.mat (id := K0.nx) 1 (AH.fresh K0) (by simp [Mat, bootsK])
    obtain ⟨k, K⟩ := s
    obtain ⟨hn, gc, hg, hk⟩ := hs
    simp only at hn hk hg gc
    have hl := hc.homes
    refine aC_sound (lv := [34]) _ _ _ _ ?_
    simp [hS.P, gc]
    refine aCond_dec (fun hlt => ?_) (fun hge => ?_)
    · obtain ⟨x, hx⟩ : ∃ x, c.homes[k]? = some x := ⟨c.homes[k], List.getElem?_eq_getElem hlt⟩
      have hfl := bootsK_len c.homes 1 k
      have ht := bootsK_step hx 1
      simp [hS.P, hx, gc, encInt]
      by_cases hp : x = 1
      · simp [hS.P, hp, hg, gc, hx]
        refine aIf_mk (by omega) ?_
        simp [hS.P]
        rw [if_pos hp] at ht
        refine ⟨k + 1, _, ⟨hlt, by simp [n0, gc], by simp [ht, encInt], put_keeps (keepsNx hk0) hk⟩, by omega, Wk.regs (by simp [wrap1 (n := k) (by omega), ht])⟩
      · simp [hS.P, hp]
        rw [if_neg hp, List.append_nil] at ht
        refine ⟨k + 1, _, ⟨hlt, gc, by rw [ht]; exact hg, hk⟩, by omega, Wk.regs (by simp [wrap1 (n := k) (by omega), ht])⟩
    · obtain rfl : k = c.homes.length := by omega
      simp [hS.P]
      refine Leave.frz hg (v' := .tup [.fsl ((bootAns14 c 1).map encInt), .nili]) (.tup _ _ rfl fun j x y h1 h2 => ?_) ?_
      · rcases j with _ | _ | j <;> simp at h1 h2
        · subst h1 h2
          have : bootAns14 c 1 = bootsK c.homes 1 c.homes.length := by simp [bootAns14, hE]
          rw [this]
          exact Frz.all (by simp)
        · subst h1 h2; exact .refl _
      · exact Leave.data (put_keeps (keepsNx hk0) hk) (by simp [encInt]) ⟨by simp [hE, encErr, PE.code], rfl⟩
end Go.Proofs.YtndoembhbfiokaaGreatDoor.Am
set_option linter.unusedVariables false
set_option linter.unusedSimpArgs false
namespace Go.Proofs.YtndoembhbfiokaaGreatDoor.Am
open Go.RowKit Go.Proofs

theorem linkIndex_spec {X : Ctx} (hS : Sent X) (g : FuncId) (l : List LinkD) (hl : l.length ≤ 1073741824) (cs : List AV) (t : LinkD → Bool) (H : AH)
    (hc : ∀ x ∈ l, ACalls X g ([encLink x] ++ cs) H fun v H' => v = .bool (t x) ∧ H' = H) :
    ACalls X 119 [.fsl (l.map encLink), .func (.func g) [] cs] H fun v H' => v = .int .i64 (firstAt t l 0) ∧ H' = H := by
  refine acalls' (N := 19) (rs := [.tmp 4]) [] (by rw [hS.P]; exact Tryz.func119) rfl rfl rfl (by decide) (by simp) ?_
  simp [entryR, hS.P]
  refine AWp.loop (S := Nat) (fun n => n ≤ l.length ∧ firstAt t (l.drop n) n = firstAt t l 0)
    (fun n => [(0, .fsl (l.map encLink)), (1, .func (.func g) [] cs), (7, .int .i64 l.length), (8, .int .i64 n)]) (fun _ => H) (fun n => l.length - n) 0 ⟨Nat.zero_le _, by simp⟩ (Wk.regs (by simp)) fun n hs => ?_
  obtain ⟨hn, hF⟩ := hs
  refine aC_sound (lv := []) _ _ _ _ ?_
  simp [hS.P]
  refine aCond_dec (fun hlt => ?_) (fun hge => ?_)
  · obtain ⟨x, hx⟩ : ∃ x, l[n]? = some x := ⟨l[n], List.getElem?_eq_getElem hlt⟩
    rw [firstAt_drop hx] at hF
    simp [hS.P, hx]
    refine (hc x (List.mem_of_getElem? hx)).mono ?_
    rintro _ _ ⟨rfl, rfl⟩
    cases ht : t x with
    | true =>
      rw [ht, if_pos rfl] at hF
      simp
      exact Leave.data (keeps_refl _) (by simp) ⟨by rw [hF], rfl⟩
    | false =>
      rw [ht, if_neg (by simp)] at hF
      simp
      exact ⟨n + 1, ⟨hlt, hF⟩, by omega, Wk.regs (by simp [wrap1 (n := n) (by omega)])⟩
  · obtain rfl : n = l.length := by omega
    simp [firstAt] at hF
    simp
    exact Leave.data (keeps_refl _) (by simp) ⟨by rw [← hF], rfl⟩
theorem linkContains_spec {X : Ctx} (hS : Sent X) (g : FuncId) (l : List LinkD) (hl : l.length ≤ 1073741824) (cs : List AV) (t : LinkD → Bool) (H : AH)
    (hc : ∀ x ∈ l, ACalls X g ([encLink x] ++ cs) H fun v H' => v = .bool (t x) ∧ H' = H) :
    ACalls X 81 [.fsl (l.map encLink), .func (.func g) [] cs] H fun v H' => v = .bool (l.any t) ∧ H' = H := by
  refine acalls' (N := 9) (rs := [.tmp 4]) [] (by rw [hS.P]; exact Tryz.func81) rfl rfl rfl (by decide) (by simp) ?_
  simp [entryR, hS.P]
  refine (linkIndex_spec hS g l hl cs t H hc).mono ?_
  rintro _ _ ⟨rfl, rfl⟩
  simp
  have e : decide (0 ≤ firstAt t l 0) = l.any t := by rw [Bool.eq_iff_iff, decide_eq_true_iff, firstAt_any]
  exact Leave.data (keeps_refl _) (by simp) ⟨by rw [e], rfl⟩
def touches (n : Int) (l : LinkD) : Bool := decide (l.src = n) || decide (l.dst = n)
noncomputable def joinErr (c : ConfD) (n : Int) : PE := if confE c ≠ .none then .bare 8 else if 0 ≤ n ∧ n < c.parts.length then .none else .bare 12
noncomputable def joinAns (c : ConfD) (n : Int) : Bool := decide (joinErr c n = .none) && c.links.any (touches n)
theorem joinErr_ok (c : ConfD) (n : Int) : (joinErr c n).Ok := by unfold joinErr; split <;> (try split) <;> simp [PE.Ok]
theorem joinF_spec {X : Ctx} (hS : Sent X) (l : LinkD) (n : Int) (i : Nat) {K : AH} (hi : K.get i = .row [.int .i64 n] 1 0) : ACalls X 82 [encLink l, .ptr i 0 0 0] K fun v H' => v = .bool (touches n l) ∧ H' = K := by
  refine acalls' (N := 14) (rs := [.tmp 3]) [] (by rw [hS.P]; exact Tryz.func82) rfl rfl rfl (by decide) (by simp) ?_
  have hne : ¬ i = K.nx := fun h => by have := AH.lt_nx (AH.ne_free hi); omega
  simp [entryR, hS.P, hi, hne]
  by_cases h : l.src = n
  · simp [hS.P, hi, hne, h]
    exact Leave.data (put_keeps (by simp) (keeps_refl K)) (by simp) ⟨by simp [touches, h], rfl⟩
  · simp [hS.P, hi, hne, h]
    exact Leave.data (put_keeps (by simp) (keeps_refl K)) (by simp) ⟨by simp [touches, h], rfl⟩
theorem frameJoined_spec {X : Ctx} (hS : Sent X) (c : ConfD) (hc : c.Small) (n : Int) : ACalc X 48 [encConf c, .int .i64 n] (.tup [.bool (joinAns c n), encErr (joinErr c n)]) := by
  intro H
  refine acalls' (N := 19) (rs := [.tmp 4, .tmp 5]) [] (by rw [hS.P]; exact Tryz.func48) rfl rfl rfl (by decide) (by simp) ?_
  have hk0 : ∀ i, H.get i ≠ .free → ((H.put H.nx (.row [encConf c] 6 0)).put (H.nx + 1) (.row [.int .i64 n] 1 0)).get i = H.get i := put_keeps (AH.free_add H 1) (put_keeps (by simp) (keeps_refl H))
  simp [entryR, hS.P]
  refine (frameCheck_spec hS c hc).go ?_
  by_cases he : confE c = .none
  rotate_left
  · obtain ⟨T, v, hT⟩ := encErr_iface he
    have hE : joinErr c n = .bare 8 := by simp only [joinErr]; rw [if_pos he]
    simp [hS.P, hT]
    rw [aC_draw (hc := by kernel_rfl)]
    simp [hS.P, hS.e8]
    exact Leave.data hk0 (by simp) ⟨by simp [joinAns, hE, encErr], rfl⟩
  simp [hS.P, he, encErr]
  refine (there_spec hS c n).go ?_
  by_cases ho : 0 ≤ n ∧ n < c.parts.length
  rotate_left
  · have hE : joinErr c n = .bare 12 := by simp only [joinErr]; rw [if_neg (by simp [he]), if_neg ho]
    simp [hS.P, ho]
    rw [aC_draw (hc := by kernel_rfl)]
    simp [hS.P, hS.e12]
    exact Leave.data hk0 (by simp) ⟨by simp [joinAns, hE, encErr], rfl⟩
  have hE : joinErr c n = .none := by simp only [joinErr]; rw [if_neg (by simp [he]), if_pos ho]
  simp [hS.P, ho]
  refine (linkContains_spec hS _ c.links hc.links _ (touches n) _ fun x _ => ?_).mono ?_
  · exact joinF_spec hS x n (H.nx + 1) (by simp)
  · rintro _ _ ⟨rfl, rfl⟩
    simp
    exact Leave.data hk0 (by simp) ⟨by simp [joinAns, hE, encErr], rfl⟩
theorem rJoined_spec {X : Ctx} (hS : Sent X) (c : ConfD) (hc : c.Small) (n : Int) : ACalc X 47 [encConf c, .int .i64 n] (.tup [.bool (joinAns c n), .int .i64 (joinErr c n).code]) := by
  intro H
  refine acalls' (N := 43) (rs := [.tmp 4, .tmp 5]) [] (by rw [hS.P]; exact Tryz.func47) rfl rfl rfl (by decide) (by simp) ?_
  have hk0 : ∀ i, H.get i ≠ .free → (H.put H.nx (.row [encConf c] 6 0)).get i = H.get i := put_keeps (by simp) (keeps_refl H)
  simp [entryR, hS.P]
  refine (rconfGood_spec hS c hc).go ?_
  by_cases he : confE c = .none
  rotate_left
  · have hE : joinErr c n = .bare 8 := by simp only [joinErr]; rw [if_pos he]
    simp [hS.P, he]
    exact Leave.data hk0 (by simp) ⟨by simp [joinAns, hE, PE.code]; rfl, rfl⟩
  simp [hS.P, he]
  by_cases h0 : n < 0
  · have hE : joinErr c n = .bare 12 := by simp only [joinErr]; rw [if_neg (by simp [he]), if_neg (by omega)]
    simp [hS.P, h0]
    exact Leave.data hk0 (by simp) ⟨by simp [joinAns, hE, PE.code]; rfl, rfl⟩
  simp [hS.P, h0]
  refine (rowner_spec hS c n).go ?_
  by_cases ho : n < c.parts.length
  rotate_left
  · have hE : joinErr c n = .bare 12 := by simp only [joinErr]; rw [if_neg (by simp [he]), if_neg (by omega)]
    have ho' : ¬ (-1 ≤ n ∧ n < c.parts.length) := by omega
    simp [hS.P, h0, ho']
    exact Leave.data hk0 (by simp) ⟨by simp [joinAns, hE, PE.code]; rfl, rfl⟩
  have ho' : -1 ≤ n ∧ n < c.parts.length := by omega
  have hE : joinErr c n = .none := by simp only [joinErr]; rw [if_neg (by simp [he]), if_pos (by omega)]
  simp [hS.P, h0, ho']
  refine AWp.loop (S := Nat) (fun k => k ≤ c.links.length ∧ c.links.any (touches n) = (c.links.drop k).any (touches n))
    (fun k => [(1, .int .i64 n), (2, .ptr H.nx 0 0 0), (6, .int .i64 k)]) (fun _ => H.put H.nx (.row [encConf c] 6 0)) (fun k => c.links.length - k) 0 ⟨Nat.zero_le _, rfl⟩ (Wk.regs (by simp)) fun k hk => ?_
  obtain ⟨hk1, hk2⟩ := hk
  have hl := hc.links
  refine aC_sound (lv := []) _ _ _ _ ?_
  simp [hS.P]
  refine aCond_dec (fun hlt => ?_) (fun hge => ?_)
  · obtain ⟨x, hx⟩ : ∃ x, c.links[k]? = some x := ⟨c.links[k], List.getElem?_eq_getElem hlt⟩
    have hd : (c.links.drop k).any (touches n) = (touches n x || (c.links.drop (k + 1)).any (touches n)) := by
      obtain ⟨h1, h2⟩ := List.getElem?_eq_some_iff.1 hx
      rw [List.drop_eq_getElem_cons h1, h2]; rfl
    simp [hS.P, hx]
    by_cases h : x.src = n
    · simp [hS.P, h]
      exact Leave.data hk0 (by simp) ⟨by rw [joinAns, hk2, hd]; simp [hE, PE.code, touches, h], rfl⟩
    by_cases h2 : x.dst = n
    · simp [hS.P, h, h2, hx]
      exact Leave.data hk0 (by simp) ⟨by rw [joinAns, hk2, hd]; simp [hE, PE.code, touches, h2], rfl⟩
    · simp [hS.P, h, h2, hx]
      exact ⟨k + 1, ⟨hlt, by rw [hk2, hd]; simp [touches, h, h2]⟩, by omega, Wk.regs (by simp [wrap1 (n := k) (by omega)])⟩
  · obtain rfl : k = c.links.length := by omega
    simp
    exact Leave.data hk0 (by simp) ⟨by rw [joinAns, hk2]; simp [hE, PE.code], rfl⟩
end Go.Proofs.YtndoembhbfiokaaGreatDoor.Am
set_option linter.unusedVariables false
set_option linter.unusedSimpArgs false
namespace Go.Proofs.YtndoembhbfiokaaGreatDoor.Am
open Go.RowKit Go.Proofs

theorem ownErr_f (c : ConfD) (n : Int) : (ownErr c n).Ok ∧ (ownErr c n).place = -1 := by unfold ownErr; split <;> (try split) <;> simp [PE.Ok, PE.place]
theorem bootErr_f (c : ConfD) (n : Int) : (bootErr c n).Ok ∧ (bootErr c n).place = -1 := by unfold bootErr; split <;> (try split) <;> simp [PE.Ok, PE.place]
theorem atErr_f (c : ConfD) (n : Int) : (atErr c n).Ok ∧ (atErr c n).place = -1 := by unfold atErr; repeat' split
                                                                                      all_goals simp [PE.Ok, PE.place]
theorem idleErr_f (c : ConfD) : (idleErr c).Ok ∧ (idleErr c).place = -1 := by unfold idleErr; split <;> simp [PE.Ok, PE.place]
theorem nextErr_f (c : ConfD) (n t : Int) : (nextErr c n t).Ok ∧ (nextErr c n t).place = -1 := by
  unfold nextErr
  split
  · exact ownErr_f c n
  · repeat' split
    all_goals simp [PE.Ok, PE.place]
theorem joinErr_f (c : ConfD) (n : Int) : (joinErr c n).Ok ∧ (joinErr c n).place = -1 := by unfold joinErr; split <;> (try split) <;> simp [PE.Ok, PE.place]
theorem winAns_len8 {c : ConfD} (hc : c.Small) (n : Int) : (winAns c n).length ≤ 1073741824 := by
  unfold winAns; split
  · exact Nat.le_trans (List.length_filter_le _ _) hc.windows
  · simp
theorem bootAns_len {c : ConfD} (hc : c.Small) (n : Int) : (bootAns14 c n).length ≤ 1073741824 := by
  unfold bootAns14; split
  · exact Nat.le_trans (bootsK_len _ _ _) hc.homes
  · simp
set_option maxRecDepth 4000 in
theorem asks_spec {X : Ctx} (hS : Sent X) (c : ConfD) (hc : c.Small) (p t : Int) : ACalc X 18 [encConf c, .int .i64 p, .int .i64 t] (.bool true) := by
  intro H
  refine acalls' (N := 152) (rs := [.tmp 6]) [] (by rw [hS.P]; exact Tryz.func18) rfl rfl rfl (by decide) (by simp) ?_
  have hk0 : ∀ i, H.get i ≠ .free → (H.put H.nx (.row [encConf c] 6 0)).get i = H.get i := put_keeps (by simp) (keeps_refl H)
  simp [entryR, hS.P]
  refine (rWindows_spec hS c hc p).go ?_
  simp [hS.P]
  refine (confCopy_spec hS c hc).go ?_
  simp [hS.P]
  refine (frameWindows_spec hS c hc p).go ?_
  simp [hS.P]
  refine (sameWindows_spec hS _ _ (winAns_len8 hc p) (winAns_len8 hc p)).go ?_
  simp [hS.P]
  refine (same14_spec hS _ (ownErr_f c p).1 (ownErr c p).code).go ?_
  simp [hS.P, (ownErr_f c p).2]
  refine (rBoots_spec hS c hc p).go ?_
  simp [hS.P]
  refine (confCopy_spec hS c hc).go ?_
  simp [hS.P]
  refine (frameBoots_spec hS c hc p).go ?_
  simp [hS.P]
  refine (sameInts_spec hS _ _ (bootAns_len hc p) (bootAns_len hc p)).go ?_
  simp [hS.P]
  refine (same14_spec hS _ (bootErr_f c p).1 (bootErr c p).code).go ?_
  simp [hS.P, (bootErr_f c p).2]
  refine (rAt_spec hS c hc t).go ?_
  simp [hS.P]
  refine (confCopy_spec hS c hc).go ?_
  simp [hS.P]
  refine (frameTick_spec hS c hc t).go ?_
  simp [hS.P]
  refine (same14_spec hS _ (atErr_f c t).1 (atErr c t).code).go ?_
  simp [hS.P, (atErr_f c t).2]
  refine (rNext_spec hS c hc p t).go ?_
  simp [hS.P]
  refine (confCopy_spec hS c hc).go ?_
  simp [hS.P]
  refine (next_spec hS c hc p t).go ?_
  simp [hS.P]
  refine (same14_spec hS _ (nextErr_f c p t).1 (nextErr c p t).code).go ?_
  simp [hS.P, (nextErr_f c p t).2]
  refine (rLoad_spec hS c hc p).go ?_
  simp [hS.P]
  refine (confCopy_spec hS c hc).go ?_
  simp [hS.P]
  refine (load_spec hS c hc p).go ?_
  simp [hS.P]
  refine (same14_spec hS _ (ownErr_f c p).1 (ownErr c p).code).go ?_
  simp [hS.P, (ownErr_f c p).2]
  refine (rJoined_spec hS c hc p).go ?_
  simp [hS.P]
  refine (confCopy_spec hS c hc).go ?_
  simp [hS.P]
  refine (frameJoined_spec hS c hc p).go ?_
  simp [hS.P]
  refine (same14_spec hS _ (joinErr_f c p).1 (joinErr c p).code).go ?_
  simp [hS.P, (joinErr_f c p).2]
  exact Leave.data hk0 (by simp) ⟨rfl, rfl⟩
theorem frameAsks_spec {X : Ctx} (hS : Sent X) (x : CaseD) (hx : x.Small) : ACalc X 4 [encCase x] (.bool true) := by
  intro H
  refine acalls' (N := 55) (rs := [.tmp 2]) [] (by rw [hS.P]; exact Tryz.func4) rfl rfl rfl (by decide) (by simp) ?_
  have hk0 : ∀ i, H.get i ≠ .free → (H.put H.nx (.row [encCase x] 15 0)).get i = H.get i := put_keeps (by simp) (keeps_refl H)
  simp [entryR, hS.P]
  refine (fixed14_spec hS).go ?_
  simp [hS.P]
  generalize hcc : x.c = c
  have hcs : c.Small := by rw [← hcc]; exact hx.c
  refine (rIdle_spec hS c hcs).go ?_
  simp [hS.P, hcc]
  refine (confCopy_spec hS c hcs).go ?_
  simp [hS.P]
  refine (idle_spec hS c hcs).go ?_
  simp [hS.P]
  refine (same14_spec hS _ (idleErr_f c).1 (idleErr c).code).go ?_
  simp [hS.P, (idleErr_f c).2]
  have hnum := hx.numbers
  refine AWp.loop (S := Nat) (fun k => k ≤ x.numbers.length)
    (fun k => [(1, .ptr H.nx 0 0 0), (7, .int .i64 k)]) (fun _ => H.put H.nx (.row [encCase x] 15 0)) (fun k => x.numbers.length - k) 0 (Nat.zero_le _) (Wk.regs (by simp)) fun k hk => ?_
  refine aC_sound (lv := []) _ _ _ _ ?_
  have hw1 := wrap1 (n := k) (by omega)
  simp [hS.P, hw1]
  refine aCond_dec (fun hlt => ?_) (fun hge => ?_)
  · have h1 : k + 1 < x.numbers.length := by omega
    obtain ⟨a, ha⟩ : ∃ a, x.numbers[k]? = some a := ⟨x.numbers[k], List.getElem?_eq_getElem (by omega)⟩
    obtain ⟨b, hb⟩ : ∃ b, x.numbers[k + 1]? = some b := ⟨x.numbers[k + 1], List.getElem?_eq_getElem h1⟩
    simp [hS.P]
    rw [aC_draw (hc := by kernel_rfl)]
    simp [hS.P, hw1, ha, hb, encInt]
    refine aIf_mk (by omega) ?_
    have htn : ((k : Int) + 1).toNat = k + 1 := by omega
    simp [hS.P, hw1, ha, hb, encInt, htn, hcc]
    refine (asks_spec hS c hcs a b).call ?_
    simp [hS.P]
    refine aIf_mk (chkH_reads (by simp)) ?_
    simp [hS.P]
    refine ⟨k + 1, by omega, by omega, Wk.regs (by simp [hw1])⟩
  · simp [hS.P]
    exact Leave.data hk0 (by simp) ⟨rfl, rfl⟩
end Go.Proofs.YtndoembhbfiokaaGreatDoor.Am
