/- The logic and the contracts that the laws stand on, part 20. -/
import Derived.Test.YtndoembhbfiokaaDoorAas
set_option linter.unusedVariables false
set_option linter.unusedSimpArgs false
namespace Go.Proofs.YtndoembhbfiokaaDoor.Am
open Go.RowKit Go.Proofs

noncomputable def idleErr (c : ConfD) : PE := if confE c ≠ .none then .bare 8 else .none
noncomputable def idleAns (c : ConfD) : Int := if idleErr c = .none then c.ticks - sumW c.windows else 0
theorem idleErr_none {c : ConfD} (h : confE c = .none) : idleErr c = .none := by simp [idleErr, h]
theorem idle_spec {X : Ctx} (hS : Sent X) (c : ConfD) (hc : c.Small) : ACalc X 24 [encConf c] (.tup [.int .i64 (idleAns c), encErr (idleErr c)]) := by
  intro H
  refine acalls' (N := 14) (rs := [.tmp 2, .tmp 3]) [] (by rw [hS.P]; exact Tryd.func24) rfl rfl rfl (by decide) (by simp) ?_
  have hk0 : ∀ i, H.get i ≠ .free → (H.put H.nx (.row [encConf c] 6 0)).get i = H.get i := put_keeps (by simp) (keeps_refl H)
  simp [entryR, hS.P]
  refine (frameCheck_spec hS c hc).go ?_
  by_cases he : confE c = .none
  · have hw := conf_windows he
    have hwl : ∀ w ∈ c.windows, 0 ≤ w.len ∧ w.len ≤ 10000 := fun w hw' => by
      have h1 := hw.2.1 w hw'
      have := h1.start; have := h1.len; have := h1.fits; omega
    have hb := sumW_bound c.windows hwl
    have v1 : IntKind.i64.wrap (c.ticks - sumW c.windows) = c.ticks - sumW c.windows := wrap64 (by omega) (by omega)
    simp [hS.P, he, encErr]
    rw [aC_draw (hc := by kernel_rfl)]
    simp [hS.P]
    refine (sum_spec hS c.windows hc.windows hwl).call ?_
    simp [hS.P, v1]
    refine aIf_mk (chkH_reads (by simp)) ?_
    simp
    exact Leave.data hk0 (by simp) ⟨by simp [idleAns, idleErr_none he, encErr], rfl⟩
  · obtain ⟨T, v, hT⟩ := encErr_iface he
    simp [hS.P, hT]
    rw [aC_draw (hc := by kernel_rfl)]
    simp [hS.P, hS.e8]
    have hE : idleErr c = .bare 8 := by simp [idleErr, he]
    exact Leave.data hk0 (by simp) ⟨by simp [idleAns, hE, encErr], rfl⟩

def atW : List WinD → Int → Option Int
  | [], _ => none
  | w :: l, t => if w.start ≤ t ∧ t < w.start + w.len then some w.part else atW l t
theorem atW_drop {l : List WinD} {k : Nat} {w : WinD} (h : l[k]? = some w) (t : Int) : atW (l.drop k) t = if w.start ≤ t ∧ t < w.start + w.len then some w.part else atW (l.drop (k + 1)) t := by
  obtain ⟨hn, he⟩ := List.getElem?_eq_some_iff.1 h
  rw [List.drop_eq_getElem_cons hn, he]; rfl
noncomputable def atErr (c : ConfD) (t : Int) : PE :=
  if confE c ≠ .none then .bare 8 else if 0 ≤ t ∧ t < c.ticks then (if (atW c.windows t).isSome then .none else .bare 17) else .bare 12
noncomputable def atAns (c : ConfD) (t : Int) : Int := if atErr c t = .none then (atW c.windows t).getD 0 else 0
theorem frameTick_spec {X : Ctx} (hS : Sent X) (c : ConfD) (hc : c.Small) (t : Int) : ACalc X 28 [encConf c, .int .i64 t] (.tup [.int .i64 (atAns c t), encErr (atErr c t)]) := by
  intro H
  refine acalls' (N := 45) (rs := [.tmp 4, .tmp 5]) [] (by rw [hS.P]; exact Tryd.func28) rfl rfl rfl (by decide) (by simp) ?_
  have fin : ∀ {K : AH} (e : PE) (v : Int), (∀ i, H.get i ≠ .free → K.get i = H.get i) → atErr c t = e → atAns c t = v → Leave X H (.tup [.int .i64 v, encErr e]) K fun v' H' => v' = .tup [.int .i64 (atAns c t), encErr (atErr c t)] ∧ H' = H := fun e v hk he hv => by
    subst he hv
    exact Leave.data hk (by simp) ⟨rfl, rfl⟩
  have hk0 : ∀ i, H.get i ≠ .free → (H.put H.nx (.row [encConf c] 6 0)).get i = H.get i := put_keeps (by simp) (keeps_refl H)
  simp [entryR, hS.P]
  refine (frameCheck_spec hS c hc).go ?_
  by_cases he : confE c = .none
  · have hw := conf_windows he
    simp [hS.P, he, encErr]
    by_cases ht0 : t < 0
    · simp [hS.P, ht0]
      rw [aC_draw (hc := by kernel_rfl)]
      simp [hS.P, hS.e12]
      have hE : atErr c t = .bare 12 := by simp only [atErr]; rw [if_neg (by simp [he]), if_neg (by omega)]
      exact fin (.bare 12) 0 hk0 hE (by simp [atAns, hE])
    simp [hS.P, ht0]
    refine aCond_dec (fun ht1 => ?_) (fun ht1 => ?_)
    · simp [hS.P]
      rw [aC_draw (hc := by kernel_rfl)]
      simp [hS.P, hS.e12]
      have hE : atErr c t = .bare 12 := by simp only [atErr]; rw [if_neg (by simp [he]), if_neg (by omega)]
      exact fin (.bare 12) 0 hk0 hE (by simp [atAns, hE])
    have hE : atErr c t = if (atW c.windows t).isSome then .none else .bare 17 := by simp only [atErr]; rw [if_neg (by simp [he]), if_pos (by omega)]
    simp [hS.P]
    refine AWp.loop (S := Nat × AH) (fun s => s.1 ≤ c.windows.length ∧ atW (c.windows.drop s.1) t = atW c.windows t ∧ ∀ i, H.get i ≠ .free → s.2.get i = H.get i)
      (fun s => [(1, .int .i64 t), (22, .fsl (c.windows.map encWin)), (23, .int .i64 c.windows.length), (24, .int .i64 s.1)]) (fun s => s.2) (fun s => c.windows.length - s.1) (0, _) ⟨Nat.zero_le _, by simp, hk0⟩ (Wk.regs (by simp)) fun s hs => ?_
    obtain ⟨k, K⟩ := s
    obtain ⟨hn, hF, hk⟩ := hs
    simp only at hn hk hF
    have hl := hc.windows
    refine aC_sound (lv := []) _ _ _ _ ?_
    simp [hS.P]
    refine aCond_dec (fun hlt => ?_) (fun hge => ?_)
    · obtain ⟨x, hx⟩ : ∃ x, c.windows[k]? = some x := ⟨c.windows[k], List.getElem?_eq_getElem hlt⟩
      rw [atW_drop hx] at hF
      have hxo := hw.2.1 x (List.mem_of_getElem? hx)
      have := hxo.start; have := hxo.len; have := hxo.fits
      have v1 : IntKind.i64.wrap (x.start + x.len) = x.start + x.len := wrap64 (by omega) (by omega)
      simp [hS.P, hx, v1]
      by_cases h1 : x.start ≤ t
      · simp [hS.P, h1, v1]
        refine aCond_dec (fun h2 => ?_) (fun h2 => ?_)
        · rw [if_pos ⟨h1, h2⟩] at hF
          simp [hS.P]
          have hE' : atErr c t = .none := by rw [hE, ← hF]; rfl
          exact fin .none _ (put_keeps (keepsNx hk) hk) hE' (by simp [atAns, hE', ← hF])
        · rw [if_neg (by omega)] at hF
          simp [hS.P]
          exact ⟨k + 1, _, ⟨hlt, hF, put_keeps (keepsNx hk) hk⟩, by omega, Wk.regs (by simp [wrap1 (n := k) (by omega)])⟩
      · rw [if_neg (by omega)] at hF
        simp [hS.P, h1]
        exact ⟨k + 1, _, ⟨hlt, hF, put_keeps (keepsNx hk) hk⟩, by omega, Wk.regs (by simp [wrap1 (n := k) (by omega)])⟩
    · obtain rfl : k = c.windows.length := by omega
      simp [atW] at hF
      simp [hS.P]
      rw [aC_draw (hc := by kernel_rfl)]
      simp [hS.P, hS.e17]
      have hE' : atErr c t = .bare 17 := by rw [hE, ← hF]; rfl
      exact fin (.bare 17) 0 hk hE' (by simp [atAns, hE'])
  · obtain ⟨T, v, hT⟩ := encErr_iface he
    simp [hS.P, hT]
    rw [aC_draw (hc := by kernel_rfl)]
    simp [hS.P, hS.e8]
    have hE : atErr c t = .bare 8 := by simp [atErr, he]
    exact fin (.bare 8) 0 hk0 hE (by simp [atAns, hE])
end Go.Proofs.YtndoembhbfiokaaDoor.Am
set_option linter.unusedVariables false
set_option linter.unusedSimpArgs false
namespace Go.Proofs.YtndoembhbfiokaaDoor.Am
open Go.RowKit Go.Proofs

/-! ### Windows in order: plain laws -/
theorem Asc.start_ge : ∀ {l : List WinD} {e : Int}, Asc l e → (∀ w ∈ l, 1 ≤ w.len) → ∀ w ∈ l, e ≤ w.start
  | [], _, _, _, _, h => by cases h
  | a :: l, e, h, hl, w, hw => by
    rcases List.mem_cons.1 hw with rfl | hw
    · exact h.1
    · have h1 := Asc.start_ge h.2 (fun x hx => hl x (List.mem_cons_of_mem _ hx)) w hw
      have h2 := h.1
      have h3 := hl a (List.mem_cons_self ..)
      omega
theorem Asc.mono {l : List WinD} {e e' : Int} (h : Asc l e) (he : e' ≤ e) : Asc l e' := by
  cases l with
  | nil => trivial
  | cons w l => exact ⟨by have := h.1; omega, h.2⟩
theorem Asc.filter (p : WinD → Bool) : ∀ {l : List WinD} {e : Int}, Asc l e → (∀ w ∈ l, 1 ≤ w.len) → Asc (l.filter p) e
  | [], _, _, _ => trivial
  | a :: l, e, h, hl => by
    have ih := Asc.filter p h.2 (fun x hx => hl x (List.mem_cons_of_mem _ hx))
    have h1 := h.1
    have h3 := hl a (List.mem_cons_self ..)
    rw [List.filter_cons]
    split
    · exact ⟨h.1, ih⟩
    · exact ih.mono (by omega)
theorem Asc.drop {l : List WinD} {n : Nat} {w : WinD} (h : l[n]? = some w) : ∀ {e : Int}, Asc l e → Asc (l.drop (n + 1)) (w.start + w.len) := by
  induction n generalizing l with
  | zero =>
    intro e ha
    cases l with
    | nil => simp at h
    | cons a l => simp at h; subst h; exact ha.2
  | succ n ih =>
    intro e ha
    cases l with
    | nil => simp at h
    | cons a l => exact ih (l := l) (by simpa using h) ha.2
theorem winsOf_asc {c : ConfD} (h : confE c = .none) (n : Int) : Asc (winsOf c n) 0 ∧ (∀ w ∈ winsOf c n, WinOK c w ∧ w.part = n) ∧ (winsOf c n).length ≤ 32 := by
  have hw := conf_windows h
  refine ⟨hw.2.2.1.filter _ fun w hw' => (hw.2.1 w hw').len, fun w hw' => ?_, Nat.le_trans (List.length_filter_le _ _) hw.1⟩
  obtain ⟨h1, h2⟩ := List.mem_filter.1 hw'
  exact ⟨hw.2.1 w h1, by simpa using h2⟩
/-- Next from the end of the window before. -/
theorem nextW_at : ∀ {l : List WinD} {e t : Int}, Asc l e → t ≤ e → (∀ w ∈ l, 1 ≤ w.len) → nextW l t = l.head?.map fun w => w.start
  | [], _, _, _, _, _ => rfl
  | w :: l, e, t, h, ht, hl => by
    have h1 := h.1
    have h2 := hl w (List.mem_cons_self ..)
    simp only [nextW, List.head?_cons, Option.map_some]
    rw [if_pos (by omega)]
    by_cases h3 : t < w.start
    · rw [if_pos h3]
    · rw [if_neg h3]; congr 1; omega
/-- Next skips windows that are over. -/
theorem nextW_skip (t : Int) : ∀ (n : Nat) (l : List WinD), (∀ j w, j < n → l[j]? = some w → w.start + w.len ≤ t) → nextW l t = nextW (l.drop n) t
  | 0, l, _ => rfl
  | n + 1, [], _ => rfl
  | n + 1, w :: l, h => by
    have h1 := h 0 w (by omega) rfl
    rw [nextW, if_neg (by omega), List.drop_succ_cons]
    exact nextW_skip t n l fun j x hj hx => h (j + 1) x (by omega) (by simpa using hx)
theorem Asc.ends {l : List WinD} {e : Int} (h : Asc l e) (hl : ∀ w ∈ l, 1 ≤ w.len) : ∀ {i j : Nat} {w v : WinD}, i < j → l[i]? = some w → l[j]? = some v → w.start + w.len ≤ v.start := by
  intro i j w v hij hi hj
  have h1 := Asc.drop hi h
  have h2 : v ∈ l.drop (i + 1) := by
    have : (l.drop (i + 1))[j - (i + 1)]? = some v := by rw [List.getElem?_drop, show i + 1 + (j - (i + 1)) = j by omega]; exact hj
    exact List.mem_of_getElem? this
  exact h1.start_ge (fun x hx => hl x (List.mem_of_mem_drop hx)) v h2
/-- The end of the n-th window, 0 before the first. -/
def endOf (l : List WinD) : Nat → Int
  | 0 => 0
  | n + 1 => ((l[n]?).map fun w => w.start + w.len).getD 0
theorem nextW_walk {l : List WinD} (h : Asc l 0) (hl : ∀ w ∈ l, 1 ≤ w.len ∧ 0 ≤ w.start) {n : Nat} (hn : n ≤ l.length) : nextW l (endOf l n) = (l[n]?).map fun w => w.start := by
  have hl1 : ∀ w ∈ l, 1 ≤ w.len := fun w hw => (hl w hw).1
  cases n with
  | zero =>
    rw [show endOf l 0 = 0 from rfl, nextW_at h (Int.le_refl 0) hl1]
    cases l <;> rfl
  | succ n =>
    obtain ⟨w, hw⟩ : ∃ w, l[n]? = some w := ⟨l[n], List.getElem?_eq_getElem (by omega)⟩
    have he : endOf l (n + 1) = w.start + w.len := by simp [endOf, hw]
    rw [he, nextW_skip _ (n + 1) l (fun j v hj hv => ?_), nextW_at (Asc.drop hw h) (Int.le_refl _) (fun x hx => hl1 x (List.mem_of_mem_drop hx))]
    · rw [List.head?_drop]
    · rcases Nat.lt_or_ge j n with h1 | h1
      · have := h.ends hl1 h1 hv hw
        have h2 := hl w (List.mem_of_getElem? hw)
        omega
      · obtain rfl : j = n := by omega
        rw [hv] at hw; obtain rfl := Option.some.inj hw
        exact Int.le_refl _
/-- At a tick of its own an owner's next tick is that tick. -/
theorem nextW_own {t p : Int} : ∀ {l : List WinD} {e : Int}, Asc l e → (∀ w ∈ l, 1 ≤ w.len) → atW l t = some p → nextW (l.filter fun w => decide (w.part = p)) t = some t
  | [], _, _, _, h => by simp [atW] at h
  | w :: l, e, ha, hl, h => by
    have hl' : ∀ x ∈ l, 1 ≤ x.len := fun x hx => hl x (List.mem_cons_of_mem _ hx)
    simp only [atW] at h
    split at h
    · rename_i hc
      obtain rfl := Option.some.inj h
      rw [List.filter_cons, if_pos (by simp), nextW, if_pos hc.2, if_neg (by omega)]
    · rename_i hc
      have ih := nextW_own ha.2 hl' h
      rw [List.filter_cons]
      split
      · -- the window is over: a later one holds the tick
        have hge : w.start + w.len ≤ t := by
          have : ∀ (l : List WinD) (e : Int), Asc l e → (∀ x ∈ l, 1 ≤ x.len) → atW l t = some p → e ≤ t := by
            intro l
            induction l with
            | nil => intro e _ _ h; simp [atW] at h
            | cons x l ih =>
              intro e ha hl h
              simp only [atW] at h
              split at h
              · rename_i hc; have := ha.1; omega
              · have h1 := ih _ ha.2 (fun y hy => hl y (List.mem_cons_of_mem _ hy)) h
                have h2 := ha.1
                have h3 := hl x (List.mem_cons_self ..)
                omega
          exact this l _ ha.2 hl' h
        rw [nextW, if_neg (by omega)]; exact ih
      · exact ih
/-! ### All owners' ticks -/
def spL (l : List WinD) : Nat → Int
  | 0 => 0
  | n + 1 => spL l n + sumW (l.filter fun w => decide (w.part = (n : Int) - 1))
theorem sumW_nil : sumW [] = 0 := rfl
theorem sumW_cons (w : WinD) (l : List WinD) : sumW (w :: l) = w.len + sumW l := by simp [sumW]
theorem spL_nil (n : Nat) : spL [] n = 0 := by
  induction n with
  | zero => rfl
  | succ n ih => simp [spL, ih, sumW]
theorem spL_cons (w : WinD) (l : List WinD) (hp : -1 ≤ w.part) (n : Nat) : spL (w :: l) n = spL l n + if w.part < (n : Int) - 1 then w.len else 0 := by
  induction n with
  | zero => simp only [spL]; rw [if_neg (by omega)]; rfl
  | succ n ih =>
    simp only [spL, ih, List.filter_cons]
    by_cases h1 : w.part < (n : Int) - 1
    · rw [if_pos h1, if_neg (by simp; omega), if_pos (by omega)]; omega
    · rw [if_neg h1]
      by_cases h2 : w.part = (n : Int) - 1
      · rw [if_pos (by simp [h2]), if_pos (by omega), sumW_cons]; omega
      · rw [if_neg (by simp [h2]), if_neg (by omega)]; omega
theorem spL_all : ∀ (l : List WinD) (m : Nat), (∀ w ∈ l, -1 ≤ w.part ∧ w.part < m) → spL l (m + 1) = sumW l
  | [], m, _ => by rw [spL_nil]; rfl
  | w :: l, m, h => by
    have h1 := h w (List.mem_cons_self ..)
    rw [spL_cons w l h1.1, spL_all l m (fun x hx => h x (List.mem_cons_of_mem _ hx)), if_pos (by omega), sumW_cons]; omega
theorem spL_bound : ∀ (l : List WinD) (n : Nat), (∀ w ∈ l, -1 ≤ w.part ∧ 0 ≤ w.len) → 0 ≤ spL l n ∧ spL l n ≤ sumW l
  | [], n, _ => by rw [spL_nil]; simp [sumW]
  | w :: l, n, h => by
    have h1 := h w (List.mem_cons_self ..)
    have h2 := spL_bound l n fun x hx => h x (List.mem_cons_of_mem _ hx)
    rw [spL_cons w l h1.1, sumW_cons]
    split <;> omega
/-! ### Ticks that are nobody's -/
def nob (l : List WinD) (t : Nat) : Bool := (atW l t).isNone
theorem count_between (s n T : Nat) (h : s + n ≤ T) : (List.range T).countP (fun t => decide (s ≤ t ∧ t < s + n)) = n := by
  induction T generalizing n with
  | zero => simp; omega
  | succ T ih =>
    rw [List.range_succ, List.countP_append]
    rcases Nat.lt_or_ge T (s + n) with h1 | h1
    · cases n with
      | zero =>
        rw [← List.countP_append, List.countP_eq_zero]
        intro a _
        simp <;> omega
      | succ n =>
        have e : (List.range T).countP (fun t => decide (s ≤ t ∧ t < s + (n + 1))) = (List.range T).countP (fun t => decide (s ≤ t ∧ t < s + n)) := by
          apply List.countP_congr
          intro t ht
          have := List.mem_range.1 ht
          simp; omega
        rw [e, ih n (by omega)]
        simp; omega
    · rw [ih n h1]
      simp <;> omega
theorem countP_split {A : Type} (p q r : A → Bool) (h : ∀ a, p a = (q a || r a) ∧ (q a && r a) = false) : ∀ l : List A, l.countP p = l.countP q + l.countP r
  | [] => rfl
  | a :: l => by
    have ih := countP_split p q r h l
    obtain ⟨h1, h2⟩ := h a
    simp only [List.countP_cons, ih, h1]
    cases hq : q a <;> cases hr : r a <;> simp [hq, hr] at h2 ⊢ <;> omega
theorem atW_before {t : Int} : ∀ {l : List WinD} {e : Int}, Asc l e → (∀ w ∈ l, 1 ≤ w.len) → t < e → atW l t = none
  | [], _, _, _, _ => rfl
  | w :: l, e, ha, hl, ht => by
    have h1 := ha.1
    have h2 := hl w (List.mem_cons_self ..)
    rw [atW, if_neg (by omega)]
    exact atW_before ha.2 (fun x hx => hl x (List.mem_cons_of_mem _ hx)) (by omega)
theorem nob_count {T : Nat} : ∀ {l : List WinD} {e : Int}, Asc l e → (∀ w ∈ l, 1 ≤ w.len ∧ 0 ≤ w.start ∧ w.start + w.len ≤ T) → (((List.range T).countP (nob l) : Nat) : Int) = T - sumW l
  | [], _, _, _ => by
    have : (List.range T).countP (nob []) = T := by
      rw [List.countP_eq_length.2]; · simp
      intro a _; rfl
    rw [this, sumW_nil]; omega
  | w :: l, e, ha, hl => by
    have h2 := hl w (List.mem_cons_self ..)
    have hl' : ∀ x ∈ l, 1 ≤ x.len ∧ 0 ≤ x.start ∧ x.start + x.len ≤ T := fun x hx => hl x (List.mem_cons_of_mem _ hx)
    have ih := nob_count (T := T) ha.2 hl'
    obtain ⟨s, hs⟩ := Int.eq_ofNat_of_zero_le h2.2.1
    obtain ⟨n, hn⟩ := Int.eq_ofNat_of_zero_le (show 0 ≤ w.len by omega)
    have hb := count_between s n T (by omega)
    have hsplit := countP_split (nob l) (nob (w :: l)) (fun t => decide (s ≤ t ∧ t < s + n)) (fun t => by
      by_cases hin : w.start ≤ (t : Int) ∧ (t : Int) < w.start + w.len
      · have e1 : atW l (t : Int) = none := atW_before ha.2 (fun x hx => (hl' x hx).1) hin.2
        have e2 : decide (s ≤ t ∧ t < s + n) = true := by simp; omega
        simp only [nob, atW, if_pos hin, e1, e2]; simp
      · have e2 : decide (s ≤ t ∧ t < s + n) = false := by simp; omega
        simp only [nob, atW, if_neg hin, e2]; simp) (List.range T)
    rw [sumW_cons]; omega
end Go.Proofs.YtndoembhbfiokaaDoor.Am
set_option linter.unusedVariables false
set_option linter.unusedSimpArgs false
namespace Go.Proofs.YtndoembhbfiokaaDoor.Am
open Go.RowKit Go.Proofs

theorem walks_spec {X : Ctx} (hS : Sent X) (c : ConfD) (hc : c.Small) (he : confE c = .none) (p : Int) (hp : -1 ≤ p ∧ p < c.parts.length) : ACalc X 27 [encConf c, .int .i64 p, .fsl ((winsOf c p).map encWin)] (.bool true) := by
  intro H
  refine acalls' (N := 67) (rs := [.tmp 6]) [] (by rw [hS.P]; exact Tryd.func27) rfl rfl rfl (by decide) (by simp) ?_
  have hk0 : ∀ i, H.get i ≠ .free → (H.put H.nx (.row [encConf c] 6 0)).get i = H.get i := put_keeps (by simp) (keeps_refl H)
  have fin : Leave X H (.bool true) (H.put H.nx (.row [encConf c] 6 0)) fun v' H' => v' = .bool true ∧ H' = H := Leave.data hk0 (by simp) ⟨rfl, rfl⟩
  obtain ⟨ha, hw, hl⟩ := winsOf_asc he p
  have hcw := conf_windows he
  have hown : ownErr c p = .none := by simp only [ownErr]; rw [if_neg (by simp [he]), if_pos hp]
  have hlw : ∀ w ∈ winsOf c p, 1 ≤ w.len ∧ 0 ≤ w.start := fun w h => ⟨(hw w h).1.len, (hw w h).1.start⟩
  have hend : ∀ n, n ≤ (winsOf c p).length → 0 ≤ endOf (winsOf c p) n ∧ endOf (winsOf c p) n ≤ c.ticks := fun n hn => by
    cases n with
    | zero => simp [endOf]; omega
    | succ n =>
      have hx : (winsOf c p)[n]? = some (winsOf c p)[n] := List.getElem?_eq_getElem (by omega)
      have h1 := (hw _ (List.mem_of_getElem? hx)).1
      have := h1.start; have := h1.len; have := h1.fits
      simp [endOf, hx]; omega
  simp [entryR, hS.P]
  generalize hL : winsOf c p = L at ha hw hl hlw hend
  refine AWp.loop (S := Nat) (fun n => n ≤ L.length ∧ endOf L n < c.ticks) (fun n => [(1, .int .i64 p), (2, .fsl (L.map encWin)), (3, .ptr H.nx 0 0 0), (7, .int .i64 (endOf L n)), (8, .int .i64 n)])
    (fun _ => H.put H.nx (.row [encConf c] 6 0)) (fun n => L.length - n) 0 ⟨Nat.zero_le _, by simp [endOf]; omega⟩ (Wk.regs (by simp [endOf])) fun n hn => ?_
  obtain ⟨hn, hlt0⟩ := hn
  have hnx := nextW_walk ha hlw hn
  have hen := hend n hn
  refine aC_sound (lv := []) _ _ _ _ ?_
  simp [hS.P]
  refine aCond_dec (fun hlt => ?_) (fun hge => ?_)
  · obtain ⟨x, hx⟩ : ∃ x, L[n]? = some x := ⟨L[n], List.getElem?_eq_getElem hlt⟩
    have hxo := (hw x (List.mem_of_getElem? hx)).1
    have := hxo.start; have := hxo.len; have := hxo.fits
    rw [hx] at hnx
    have hE : nextErr c p (endOf L n) = .none := by
      simp only [nextErr]; rw [if_neg (by simp [hown]), if_pos ⟨hen.1, hlt0⟩, hL, hnx]; rfl
    have hA : nextAns c p (endOf L n) = x.start := by simp [nextAns, hE, hL, hnx]
    have he1 : endOf L (n + 1) = x.start + x.len := by simp [endOf, hx]
    have v1 : IntKind.i64.wrap (x.start + x.len) = x.start + x.len := wrap64 (by omega) (by omega)
    simp [hS.P]
    refine (next_spec hS c hc p (endOf L n)).go ?_
    simp [hS.P, hE, hA, encErr, hx]
    rw [aC_draw (hc := by kernel_rfl)]
    simp [hS.P, hx, v1]
    refine aCond_dec (fun h1 => ?_) (fun h1 => ?_)
    · have hlast : n + 1 = L.length := by
        rcases Nat.lt_or_ge (n + 1) L.length with h2 | h2
        · exfalso
          have hy : L[n + 1]? = some L[n + 1] := List.getElem?_eq_getElem h2
          have h3 := ha.ends (fun w h => (hlw w h).1) (Nat.lt_succ_self n) hx hy
          have h4 := (hw _ (List.mem_of_getElem? hy)).1
          have := h4.len; have := h4.fits
          omega
        · omega
      simp [hS.P, wrap1 (n := n) (by omega), hlast]
      exact fin
    · simp [hS.P]
      exact ⟨n + 1, ⟨hlt, by rw [he1]; omega⟩, by omega, Wk.regs (by simp [wrap1 (n := n) (by omega), he1])⟩
  · obtain rfl : n = L.length := by omega
    have hnone : nextW L (endOf L L.length) = none := by rw [hnx]; simp
    have hE : nextErr c p (endOf L L.length) = .bare 17 := by
      simp only [nextErr]; rw [if_neg (by simp [hown]), if_pos ⟨hen.1, hlt0⟩, hL, hnone]; rfl
    simp [hS.P]
    refine (next_spec hS c hc p (endOf L L.length)).go ?_
    rw [hE]
    simp [hS.P]
    refine (code_spec hS (.bare 17) (by simp [PE.Ok])).go ?_
    simp [hS.P, PE.code, codeG]
    exact fin
end Go.Proofs.YtndoembhbfiokaaDoor.Am
set_option linter.unusedVariables false
set_option linter.unusedSimpArgs false
namespace Go.Proofs.YtndoembhbfiokaaDoor.Am
open Go.RowKit Go.Proofs

def uf (l : List WinD) (T t : Nat) : Nat := ((List.range T).drop t).countP (nob l)
theorem uf_step (l : List WinD) {T t : Nat} (h : t < T) : uf l T t = uf l T (t + 1) + if nob l t = true then 1 else 0 := by
  have hl : t < (List.range T).length := by simpa using h
  unfold uf
  rw [List.drop_eq_getElem_cons hl, List.countP_cons]
  simp
theorem uf_le (l : List WinD) (T t : Nat) {st : Nat} (h : 1 ≤ st) : uf l T (t + st) ≤ uf l T (t + 1) := by
  unfold uf
  have : (List.range T).drop (t + st) = ((List.range T).drop (t + 1)).drop (st - 1) := by rw [List.drop_drop]; congr 1; omega
  rw [this]
  exact List.Sublist.countP_le (List.drop_sublist _ _)
theorem frameTicks_spec {X : Ctx} (hS : Sent X) (x : CaseD) (hx : x.Small) : ACalc X 6 [encCase x] (.bool true) := by
  intro H
  refine acalls' (N := 137) (rs := [.tmp 2]) [] (by rw [hS.P]; exact Tryd.func6) rfl rfl rfl (by decide) (by simp) ?_
  have f1 : H.get (H.nx + 1) = .free := AH.free_add H 1
  simp [entryR, hS.P]
  refine (fixed14_spec hS).go ?_
  simp [hS.P]
  generalize hc : x.c = c
  have hcs : c.Small := by rw [← hc]; exact hx.c
  refine (rconfGood_spec hS c hcs).go ?_
  have hk0 : ∀ i, H.get i ≠ .free → (((H.put H.nx (.row [encCase x] 15 0)).put (H.nx + 1) (.row [encConf c] 6 0)).get i = H.get i) := put_keeps f1 (put_keeps (by simp) (keeps_refl H))
  by_cases he : confE c = .none
  rotate_left
  · simp [he, hS.P]
    refine (frameCheck_spec hS c hcs).go ?_
    obtain ⟨T, v, hT⟩ := encErr_iface he
    simp [hS.P, hT]
    exact Leave.data hk0 (by simp) ⟨rfl, rfl⟩
  simp [he, hS.P]
  refine (idle_spec hS c hcs).go ?_
  have hiE := idleErr_none he
  have hiA : idleAns c = c.ticks - sumW c.windows := by simp [idleAns, hiE]
  rw [hiE, hiA]
  simp [hS.P, encErr]
  have hw := conf_windows he
  have hpc := hcs.parts
  have hwl : ∀ w ∈ c.windows, 0 ≤ w.len ∧ w.len ≤ 10000 := fun w hw' => by
    have h1 := hw.2.1 w hw'
    have := h1.start; have := h1.len; have := h1.fits; omega
  have hwp : ∀ w ∈ c.windows, -1 ≤ w.part ∧ 0 ≤ w.len := fun w hw' => ⟨(hw.2.1 w hw').part.1, (hwl w hw').1⟩
  have hb := sumW_bound c.windows hwl
  have hall : spL c.windows (c.parts.length + 1) = sumW c.windows := spL_all c.windows c.parts.length fun w hw' => (hw.2.1 w hw').part
  generalize hK : (AH.put _ (H.nx + 1) _) = K
  have g0 : K.get H.nx = .row [encCase x] 15 0 := by rw [← hK]; simp
  have g1 : K.get (H.nx + 1) = .row [encConf c] 6 0 := by rw [← hK]; simp; rfl
  have hk : ∀ i, H.get i ≠ .free → K.get i = H.get i := by rw [← hK]; exact hk0
  refine AWp.loop (S := Nat) (fun n => n ≤ c.parts.length + 1) (fun n => [(1, .ptr H.nx 0 0 0), (3, .ptr (H.nx + 1) 0 0 0), (4, .int .i64 (c.ticks - sumW c.windows)), (6, .int .i64 (c.ticks - sumW c.windows + spL c.windows n)), (7, .int .i64 ((n : Int) - 1))])
    (fun _ => K) (fun n => c.parts.length + 1 - n) 0 (Nat.zero_le _) (Wk.regs (by simp [spL])) fun n hn => ?_
  refine aC_sound (lv := []) _ _ _ _ ?_
  simp [hS.P, g1]
  refine aCond_dec (fun hlt => ?_) (fun hge => ?_)
  · have hp : -1 ≤ (n : Int) - 1 ∧ (n : Int) - 1 < c.parts.length := by omega
    have hown : ownErr c ((n : Int) - 1) = .none := by simp only [ownErr]; rw [if_neg (by simp [he]), if_pos hp]
    have hwa : winAns c ((n : Int) - 1) = winsOf c ((n : Int) - 1) := by simp [winAns, hown]
    obtain ⟨ha, hwo, hl⟩ := winsOf_asc he ((n : Int) - 1)
    have hlo : ∀ w ∈ winsOf c ((n : Int) - 1), 0 ≤ w.len ∧ w.len ≤ 10000 := fun w h => hwl w (List.mem_filter.1 h).1
    have hbo := sumW_bound _ hlo
    have hs1 := spL_bound c.windows (n + 1) hwp
    have hs0 := spL_bound c.windows n hwp
    have hsp : spL c.windows (n + 1) = spL c.windows n + sumW (winsOf c ((n : Int) - 1)) := rfl
    have v1 : IntKind.i64.wrap (c.ticks - sumW c.windows + spL c.windows n + sumW (winsOf c ((n : Int) - 1))) = c.ticks - sumW c.windows + spL c.windows (n + 1) := by rw [hsp, wrap64 (by omega) (by omega)]; omega
    have v2 : IntKind.i64.wrap (n : Int) = n := wrap64 (by omega) (by omega)
    simp [hS.P, g1]
    refine (load_spec hS c hcs ((n : Int) - 1)).go ?_
    simp [hS.P, g1, hown, hwa, encErr]
    refine (frameWindows_spec hS c hcs ((n : Int) - 1)).go ?_
    simp [hS.P, g1, hown, hwa, encErr]
    have hwk := walks_spec hS c hcs he ((n : Int) - 1) hp
    generalize hL : winsOf c ((n : Int) - 1) = L at ha hwo hl hlo hbo hsp v1 hwk
    refine AWp.loop (S := Nat) (fun i => i ≤ L.length) (fun i => [(1, .ptr H.nx 0 0 0), (3, .ptr (H.nx + 1) 0 0 0), (4, .int .i64 (c.ticks - sumW c.windows)), (6, .int .i64 (c.ticks - sumW c.windows + spL c.windows (n + 1))), (7, .int .i64 ((n : Int) - 1)), (8, .int .i64 (sumW (L.drop i))), (10, .fsl (L.map encWin)), (12, .int .i64 i)])
      (fun _ => K) (fun i => L.length - i) 0 (Nat.zero_le _) (Wk.regs (by simp [v1])) fun i hi => ?_
    refine aC_sound (lv := []) _ _ _ _ ?_
    simp [hS.P]
    refine aCond_dec (fun hlt2 => ?_) (fun hge2 => ?_)
    · obtain ⟨w, hw'⟩ : ∃ w, L[i]? = some w := ⟨L[i], List.getElem?_eq_getElem hlt2⟩
      have hwm := List.mem_of_getElem? hw'
      have hwpt := (hwo w hwm).2
      have hwlen := hlo w hwm
      have hd : sumW (L.drop i) = w.len + sumW (L.drop (i + 1)) := by
        obtain ⟨hn', he'⟩ := List.getElem?_eq_some_iff.1 hw'
        rw [List.drop_eq_getElem_cons hn', he', sumW_cons]
      have hbd := sumW_bound (L.drop (i + 1)) fun y hy => hlo y (List.mem_of_mem_drop hy)
      have hll : (L.drop (i + 1)).length ≤ 32 := by simp; omega
      have v3 : IntKind.i64.wrap (sumW (L.drop i) - w.len) = sumW (L.drop (i + 1)) := by rw [hd, wrap64 (by omega) (by omega)]; omega
      simp [hS.P, hw', hwpt, v3]
      exact ⟨i + 1, hlt2, by omega, Wk.regs (by simp [wrap1 (n := i) (by omega)])⟩
    · have hi' : i = L.length := by omega
      subst hi'
      have hd0 : sumW (L.drop L.length) = 0 := by simp [sumW]
      rw [hd0]
      simp [hS.P, g1]
      refine hwk.go ?_
      simp [hS.P]
      exact ⟨n + 1, by omega, by omega, Wk.regs (by simp [v2])⟩
  · have hn1 : n = c.parts.length + 1 := by omega
    subst hn1
    rw [hall]
    obtain ⟨T, hT⟩ := Int.eq_ofNat_of_zero_le (show 0 ≤ c.ticks by omega)
    have v0 : c.ticks - sumW c.windows + sumW c.windows = c.ticks := by omega
    rw [v0]
    have hq : c.ticks.tdiv 97 = (T : Int) / 97 := by rw [hT]; rfl
    have v4 : IntKind.i64.wrap ((T : Int) / 97) = (T : Int) / 97 := wrap64 (by omega) (by omega)
    have v5 : IntKind.i64.wrap (1 + (T : Int) / 97) = ((1 + T / 97 : Nat) : Int) := by rw [wrap64 (by omega) (by omega)]; omega
    generalize hst : 1 + T / 97 = st at v5
    have hst1 : 1 ≤ st ∧ st ≤ 10001 := by omega
    simp [hS.P, g1, hq, v4, v5]
    have hu0 : ((uf c.windows T 0 : Nat) : Int) = c.ticks - sumW c.windows := by
      rw [hT]; exact nob_count hw.2.2.1 fun w hw' => ⟨(hw.2.1 w hw').len, (hw.2.1 w hw').start, by have := (hw.2.1 w hw').fits; omega⟩
    refine AWp.loop (S := Nat × Int) (fun s => s.1 ≤ 30000 ∧ ((uf c.windows T s.1 : Nat) : Int) ≤ s.2 ∧ s.2 ≤ 10000) (fun s => [(1, .ptr H.nx 0 0 0), (3, .ptr (H.nx + 1) 0 0 0), (4, .int .i64 s.2), (13, .int .i64 st), (14, .int .i64 s.1)])
      (fun _ => K) (fun s => T - s.1) (0, c.ticks - sumW c.windows) ⟨by simp, by rw [← hu0]; exact Int.le_refl _, by simp; omega⟩ (Wk.regs (by simp)) fun s hs => ?_
    obtain ⟨t, id⟩ := s
    obtain ⟨ht, hu, hid⟩ := hs
    simp only at ht hu hid
    refine aC_sound (lv := []) _ _ _ _ ?_
    simp [hS.P, g1]
    refine aCond_dec (fun hlt => ?_) (fun hge => ?_)
    · have htT : t < T := by omega
      have hus := uf_step c.windows htT
      have hul := uf_le c.windows T t hst1.1
      have v6 : IntKind.i64.wrap ((t : Int) + st) = ((t + st : Nat) : Int) := by rw [wrap64 (by omega) (by omega)]; omega
      have v7 : IntKind.i64.wrap (id - 1) = id - 1 := wrap64 (by omega) (by omega)
      simp [hS.P, g1]
      refine (frameTick_spec hS c hcs t).go ?_
      have hE : atErr c t = if (atW c.windows t).isSome then .none else .bare 17 := by simp only [atErr]; rw [if_neg (by simp [he]), if_pos (by omega)]
      cases hat : atW c.windows (t : Int) with
      | none =>
        have hE' : atErr c t = .bare 17 := by rw [hE, hat]; rfl
        have hnb : nob c.windows t = true := by simp [nob, hat]
        rw [if_pos hnb] at hus
        rw [hE']
        simp [hS.P, encErr, sentV]
        refine (code_spec hS (.bare 17) (by simp [PE.Ok])).go ?_
        simp [hS.P, PE.code, codeG, v7, g1]
        exact ⟨t + st, id - 1, ⟨by omega, by omega, by omega⟩, by omega, Wk.regs (by simp [v6])⟩
      | some p =>
        have hE' : atErr c t = .none := by rw [hE, hat]; rfl
        have hA' : atAns c t = p := by simp [atAns, hE', hat]
        have hnb : nob c.windows t = false := by simp [nob, hat]
        rw [if_neg (by simp [hnb])] at hus
        rw [hE', hA']
        simp [hS.P, encErr, g1]
        have hno := nextW_own hw.2.2.1 (fun w hw' => (hw.2.1 w hw').len) hat
        have hno : nextW (winsOf c p) t = some (t : Int) := hno
        have hpp : -1 ≤ p ∧ p < c.parts.length := by
          have : ∀ (l : List WinD), (∀ w ∈ l, -1 ≤ w.part ∧ w.part < c.parts.length) → atW l t = some p → -1 ≤ p ∧ p < c.parts.length := by
            intro l
            induction l with
            | nil => intro _ h; simp [atW] at h
            | cons w l ih =>
              intro h1 h2
              simp only [atW] at h2
              split at h2
              · obtain rfl := Option.some.inj h2; exact h1 w (List.mem_cons_self ..)
              · exact ih (fun y hy => h1 y (List.mem_cons_of_mem _ hy)) h2
          exact this c.windows (fun w hw' => (hw.2.1 w hw').part) hat
        have hown : ownErr c p = .none := by simp only [ownErr]; rw [if_neg (by simp [he]), if_pos hpp]
        have hNE : nextErr c p t = .none := by
          simp only [nextErr]; rw [if_neg (by simp [hown]), if_pos (by omega)]
          rw [hno]; rfl
        have hNA : nextAns c p t = t := by simp only [nextAns]; rw [if_pos hNE, hno]; rfl
        refine (next_spec hS c hcs p t).go ?_
        rw [hNE, hNA]
        simp [hS.P, encErr, g1]
        exact ⟨t + st, id, ⟨by omega, by omega, by omega⟩, by omega, Wk.regs (by simp [v6])⟩
    · have hid0 : 0 ≤ id := by omega
      simp [hS.P, hid0]
      exact Leave.data hk (by simp) ⟨rfl, rfl⟩
end Go.Proofs.YtndoembhbfiokaaDoor.Am
