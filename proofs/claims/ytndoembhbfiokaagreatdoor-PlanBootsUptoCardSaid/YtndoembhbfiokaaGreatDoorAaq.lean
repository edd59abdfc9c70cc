/- The logic and the contracts that the laws stand on, part 17. -/
import Derived.Test.YtndoembhbfiokaaGreatDoorAap
set_option linter.unusedVariables false
set_option linter.unusedSimpArgs false
namespace Go.Proofs.YtndoembhbfiokaaGreatDoor.Am
open Go.RowKit Go.Proofs

/-- A port's plan. -/
structure PortD where
  kind : Int
  size : Int
  depth : Int
  refresh : Int
def encPort (p : PortD) : AV := .agg [.int .i64 p.kind, .int .i64 p.size, .int .i64 p.depth, .int .i64 p.refresh]
@[simp] theorem encPort_data (p : PortD) : (encPort p).Data := by simp [encPort]
@[simp] theorem encPort_good (p : PortD) : (encPort p).good = true := rfl
@[simp] theorem encPort_cells (p : PortD) : (encPort p).cells = [.int .i64 p.kind, .int .i64 p.size, .int .i64 p.depth, .int .i64 p.refresh] := rfl
def PortD.err (p : PortD) : PE :=
  if p.kind < 1 ∨ 4 < p.kind then .bare 7 else if p.size < 1 ∨ 32 < p.size then .bare 11
  else if p.depth < 1 ∨ (if 3 ≤ p.kind then 8 else 1) < p.depth ∨ p.refresh < 0 ∨ (if p.kind = 1 then 255 else 0) < p.refresh then .bare 4 else .none

theorem isIn_spec {X : Ctx} (hS : Sent X) (p : PortD) : ACalc X 122 [encPort p] (.bool (decide (p.kind = 1 ∨ p.kind = 3))) := by
  intro H
  refine acalls' (N := 11) (rs := [.tmp 2]) [] (by rw [hS.P]; exact Tryz.func122) rfl rfl rfl (by decide) (by simp) ?_
  simp [entryR, hS.P, encPort]
  refine aGuard_decf (fun h => ?_) (fun h => ?_)
  · simp [h, hS.P]
    exact Leave.data (put_keeps (by simp) (keeps_refl H)) (by simp) (by simp [h])
  · simp [h, hS.P]
    exact Leave.data (put_keeps (by simp) (keeps_refl H)) (by simp) (by simp [h])
theorem isOut_spec {X : Ctx} (hS : Sent X) (p : PortD) : ACalc X 120 [encPort p] (.bool (decide (p.kind = 2 ∨ p.kind = 4))) := by
  intro H
  refine acalls' (N := 11) (rs := [.tmp 2]) [] (by rw [hS.P]; exact Tryz.func120) rfl rfl rfl (by decide) (by simp) ?_
  simp [entryR, hS.P, encPort]
  refine aGuard_decf (fun h => ?_) (fun h => ?_)
  · simp [h, hS.P]
    exact Leave.data (put_keeps (by simp) (keeps_refl H)) (by simp) (by simp [h])
  · simp [h, hS.P]
    exact Leave.data (put_keeps (by simp) (keeps_refl H)) (by simp) (by simp [h])
theorem isQueue_spec {X : Ctx} (hS : Sent X) (p : PortD) : ACalc X 121 [encPort p] (.bool (decide (p.kind = 3 ∨ p.kind = 4))) := by
  intro H
  refine acalls' (N := 11) (rs := [.tmp 2]) [] (by rw [hS.P]; exact Tryz.func121) rfl rfl rfl (by decide) (by simp) ?_
  simp [entryR, hS.P, encPort]
  refine aGuard_decf (fun h => ?_) (fun h => ?_)
  · simp [h, hS.P]
    exact Leave.data (put_keeps (by simp) (keeps_refl H)) (by simp) (by simp [h])
  · simp [h, hS.P]
    exact Leave.data (put_keeps (by simp) (keeps_refl H)) (by simp) (by simp [h])
theorem portCheck_spec {X : Ctx} (hS : Sent X) (p : PortD) : ACalc X 85 [encPort p] (encErr p.err) := by
  intro H
  refine acalls' (N := 52) (rs := [.tmp 2]) [] (by rw [hS.P]; exact Tryz.func85) rfl rfl rfl (by decide) (by simp) ?_
  simp [entryR, hS.P]
  refine (isQueue_spec hS p).go ?_
  obtain ⟨k, s, d, r⟩ := p
  have hk : k = 1 ∨ k = 2 ∨ k = 3 ∨ k = 4 ∨ (k < 1 ∨ 4 < k) := by omega
  rcases hk with rfl | rfl | rfl | rfl | hk
  rotate_left 4
  · have n1 : ¬ k = 1 := by omega
    have n2 : ¬ k = 2 := by omega
    have n3 : ¬ k = 3 := by omega
    have n4 : ¬ k = 4 := by omega
    simp [hS.P, n1, n2, n3, n4]
    refine (isIn_spec hS ⟨_, s, d, r⟩).go ?_
    simp [hS.P, n1, n2, n3, n4]
    refine (isOut_spec hS ⟨_, s, d, r⟩).go ?_
    simp [hS.P, n1, n2, n3, n4, hS.e7]
    exact Leave.data (put_keeps (by simp) (keeps_refl H)) (by simp) (by simp [PortD.err, hk, encErr])
  all_goals
    simp [hS.P]
    refine (isIn_spec hS ⟨_, s, d, r⟩).go ?_
    simp [hS.P]
    try refine (isOut_spec hS ⟨_, s, d, r⟩).go ?_
    try simp [hS.P]
    refine aGuard_decf (fun h1 => ?_) (fun h1 => ?_)
    · simp [h1, hS.P, hS.e11]
      exact Leave.data (put_keeps (by simp) (keeps_refl H)) (by simp) (by simp [PortD.err, h1, encErr])
    · simp [h1, hS.P]
      refine aCond_dec (fun h2 => ?_) (fun h2 => ?_)
      · simp [hS.P, hS.e11]
        exact Leave.data (put_keeps (by simp) (keeps_refl H)) (by simp) (by simp [PortD.err, h1, h2, encErr])
      · simp [hS.P]
        refine aGuard_decf (fun h3 => ?_) (fun h3 => ?_)
        · simp [h3, hS.P, hS.e4]
          exact Leave.data (put_keeps (by simp) (keeps_refl H)) (by simp) (by simp [PortD.err, h1, h2, h3, encErr])
        · simp [h3, hS.P]
          refine aGuard_decf (fun h4 => ?_) (fun h4 => ?_)
          · simp [h4, hS.P, hS.e4]
            exact Leave.data (put_keeps (by simp) (keeps_refl H)) (by simp) (by simp [PortD.err, h1, h2, h3, h4, encErr])
          · simp [h4, hS.P]
            refine aGuard_decf (fun h5 => ?_) (fun h5 => ?_)
            · simp [h5, hS.P, hS.e4]
              exact Leave.data (put_keeps (by simp) (keeps_refl H)) (by simp) (by simp [PortD.err, h1, h2, h3, h4, h5, encErr])
            · simp [h5, hS.P]
              refine aCond_dec (fun h6 => ?_) (fun h6 => ?_)
              · simp [hS.P, hS.e4]
                exact Leave.data (put_keeps (by simp) (keeps_refl H)) (by simp) (by simp [PortD.err, h1, h2, h3, h4, h5, h6, encErr])
              · simp
                exact Leave.data (put_keeps (by simp) (keeps_refl H)) (by simp) (by simp [PortD.err, h1, h2, h3, h4, h5, h6, encErr])
end Go.Proofs.YtndoembhbfiokaaGreatDoor.Am
set_option linter.unusedVariables false
set_option linter.unusedSimpArgs false
namespace Go.Proofs.YtndoembhbfiokaaGreatDoor.Am
open Go.RowKit Go.Proofs

theorem rportCheck_spec {X : Ctx} (hS : Sent X) (p : PortD) : ACalc X 105 [encPort p] (.int .i64 p.err.code) := by
  intro H
  refine acalls' (N := 58) (rs := [.tmp 2]) [] (by rw [hS.P]; exact Tryz.func105) rfl rfl rfl (by decide) (by simp) ?_
  obtain ⟨k, s, d, r⟩ := p
  have fin : ∀ {v : AV} {c : Nat}, v = .int .i64 c → (PortD.mk k s d r).err.code = c → Leave X H v (H.put H.nx (.row [encPort ⟨k, s, d, r⟩] 4 0)) fun v' H' => v' = .int .i64 (PortD.mk k s d r).err.code ∧ H' = H := fun hv hc => by
    subst hv; rw [hc]; exact Leave.data (put_keeps (by simp) (keeps_refl H)) (by simp) ⟨rfl, rfl⟩
  simp [entryR, hS.P]
  refine aGuard_decf (fun h1 => ?_) (fun h1 => ?_)
  · simp [h1, hS.P]
    exact fin (c := 7) rfl (by simp [PortD.err, h1, PE.code, codeG])
  simp [h1, hS.P]
  refine aCond_dec (fun h2 => ?_) (fun h2 => ?_)
  · simp
    exact fin (c := 7) rfl (by simp [PortD.err, h1, h2, PE.code, codeG])
  simp [hS.P]
  refine aGuard_decf (fun h3 => ?_) (fun h3 => ?_)
  · simp [h3, hS.P]
    exact fin (c := 11) rfl (by simp [PortD.err, h1, h2, h3, PE.code, codeG])
  simp [h3, hS.P]
  refine aCond_dec (fun h4 => ?_) (fun h4 => ?_)
  · simp
    exact fin (c := 11) rfl (by simp [PortD.err, h1, h2, h3, h4, PE.code, codeG])
  simp [hS.P]
  refine aGuard_decf (fun h5 => ?_) (fun h5 => ?_)
  · simp [h5, hS.P]
    exact fin (c := 4) rfl (by simp [PortD.err, h1, h2, h3, h4, h5, PE.code, codeG])
  simp [h5, hS.P]
  refine aGuard_decf (fun h6 => ?_) (fun h6 => ?_)
  · have : (if 3 ≤ k then 8 else 1) < d := by split <;> omega
    simp [h6, hS.P]
    exact fin (c := 4) rfl (by simp [PortD.err, h1, h2, h3, h4, h5, h6, this, PE.code, codeG])
  simp [h6, hS.P]
  have fin4 : ((if 3 ≤ k then 8 else 1) < d ∨ r < 0 ∨ (if k = 1 then 255 else 0) < r) → (PortD.mk k s d r).err.code = 4 := fun h => by
    show PE.code (if k < 1 ∨ 4 < k then PE.bare 7 else if s < 1 ∨ 32 < s then PE.bare 11 else if d < 1 ∨ (if 3 ≤ k then 8 else 1) < d ∨ r < 0 ∨ (if k = 1 then 255 else 0) < r then PE.bare 4 else PE.none) = 4
    rw [if_neg (by omega), if_neg (by omega), if_pos (.inr h)]
    rfl
  have fin0 : ¬ ((if 3 ≤ k then 8 else 1) < d ∨ r < 0 ∨ (if k = 1 then 255 else 0) < r) → (PortD.mk k s d r).err.code = 0 := fun h => by
    show PE.code (if k < 1 ∨ 4 < k then PE.bare 7 else if s < 1 ∨ 32 < s then PE.bare 11 else if d < 1 ∨ (if 3 ≤ k then 8 else 1) < d ∨ r < 0 ∨ (if k = 1 then 255 else 0) < r then PE.bare 4 else PE.none) = 0
    rw [if_neg (by omega), if_neg (by omega), if_neg (fun h' => h'.elim h5 h)]
    rfl
  by_cases hq : 3 ≤ k
  · have hk1 : ¬ k = 1 := by omega
    simp only [hq, hk1, if_true, if_false] at fin4 fin0
    have hq' : ¬ k < 3 := by omega
    simp [hq, hq', h6, hS.P]
    refine aGuard_decf (fun h7 => ?_) (fun h7 => ?_)
    · simp [h7, hS.P]
      exact fin (c := 4) rfl (fin4 (by omega))
    simp [h7, hS.P]
    refine aGuard_decf (fun h8 => ?_) (fun h8 => ?_)
    · simp [h8, hS.P]
      exact fin (c := 4) rfl (fin4 (by omega))
    simp [h8, hk1, hS.P]
    refine aCond_mk (fun h9 => ?_) (fun h9 => ?_)
    · simp at h9
      simp
      exact fin (c := 4) rfl (fin4 (by omega))
    · simp at h9
      simp
      exact fin (c := 0) rfl (fin0 (by omega))
  · simp only [hq, if_false] at fin4 fin0
    by_cases hd : d = 1
    · subst hd
      simp [hq, hS.P]
      refine aGuard_decf (fun h7 => ?_) (fun h7 => ?_)
      · simp [h7, hS.P]
        exact fin (c := 4) rfl (fin4 (by omega))
      simp [h7, hS.P]
      refine aGuard_decf (fun h8 => ?_) (fun h8 => ?_)
      · simp [h8, hS.P]
        refine fin (c := 4) rfl (fin4 ?_)
        by_cases hk1 : k = 1 <;> simp [hk1] <;> omega
      simp [h8, hS.P]
      by_cases hk1 : k = 1
      · subst hk1
        simp [h7, h8, hS.P]
        exact fin (c := 0) rfl (fin0 (by simp; omega))
      · simp [hk1, h7, h8, hS.P]
        refine aCond_mk (fun h9 => ?_) (fun h9 => ?_)
        · simp at h9
          simp
          exact fin (c := 4) rfl (fin4 (by simp [hk1]; omega))
        · simp at h9
          simp
          exact fin (c := 0) rfl (fin0 (by simp [hk1]; omega))
    · simp [hq, hd, h6, hS.P]
      exact fin (c := 4) rfl (fin4 (by omega))
theorem isOut_err (p : PortD) (h : p.err = .none) : (1 ≤ p.kind ∧ p.kind ≤ 4) ∧ (1 ≤ p.size ∧ p.size ≤ 32) ∧ (1 ≤ p.depth ∧ p.depth ≤ 8) := by
  unfold PortD.err at h
  by_cases h1 : p.kind < 1 ∨ 4 < p.kind
  · simp [h1] at h
  · by_cases h2 : p.size < 1 ∨ 32 < p.size
    · simp [h1, h2] at h
    · rw [if_neg h1, if_neg h2] at h
      by_cases h3 : p.depth < 1 ∨ (if 3 ≤ p.kind then 8 else 1) < p.depth ∨ p.refresh < 0 ∨ (if p.kind = 1 then 255 else 0) < p.refresh
      · rw [if_pos h3] at h; cases h
      · have h4 : p.depth ≤ (if 3 ≤ p.kind then 8 else 1) := by omega
        refine ⟨by omega, by omega, by omega, ?_⟩
        split at h4 <;> omega
/-- The most bytes that a port's messages take. -/
def PortD.most (p : PortD) : Int := if p.err ≠ .none then 0 else if p.kind = 2 ∨ p.kind = 4 then 2 else 2 + p.depth * (1 + p.size)
theorem most7_spec {X : Ctx} (hS : Sent X) (p : PortD) : ∃ e : AV, ACalc X 83 [encPort p] (.tup [.int .i64 p.most, e]) := by
  by_cases he : p.err = .none
  · refine ⟨.nili, fun H => ?_⟩
    refine acalls' (N := 17) (rs := [.tmp 2, .tmp 3]) [] (by rw [hS.P]; exact Tryz.func83) rfl rfl rfl (by decide) (by simp) ?_
    simp [entryR, hS.P]
    refine (portCheck_spec hS p).go ?_
    simp [hS.P, he, encErr]
    refine (isOut_spec hS p).go ?_
    obtain ⟨h1, h2, h3⟩ := isOut_err p he
    by_cases ho : p.kind = 2 ∨ p.kind = 4
    · simp [hS.P, ho]
      exact Leave.data (put_keeps (by simp) (keeps_refl H)) (by simp) (by simp [PortD.most, he, ho])
    · have hm : p.depth * (1 + p.size) ≤ 8 * 33 := Int.mul_le_mul (by omega) (by omega) (by omega) (by omega)
      have hm0 : 0 ≤ p.depth * (1 + p.size) := Int.mul_nonneg (by omega) (by omega)
      have e1 : IntKind.i64.wrap (1 + p.size) = 1 + p.size := wrap64 (by omega) (by omega)
      have e2 : IntKind.i64.wrap (p.depth * (1 + p.size)) = p.depth * (1 + p.size) := wrap64 (by omega) (by omega)
      have e3 : IntKind.i64.wrap (2 + p.depth * (1 + p.size)) = 2 + p.depth * (1 + p.size) := wrap64 (by omega) (by omega)
      simp [hS.P, ho, encPort, e1, e2, e3]
      exact Leave.data (put_keeps (by simp) (keeps_refl H)) (by simp) (by simp [PortD.most, he, ho])
  · refine ⟨encErr (.bare 8), fun H => ?_⟩
    refine acalls' (N := 17) (rs := [.tmp 2, .tmp 3]) [] (by rw [hS.P]; exact Tryz.func83) rfl rfl rfl (by decide) (by simp) ?_
    simp [entryR, hS.P]
    refine (portCheck_spec hS p).go ?_
    have : ∃ T v, encErr p.err = .iface T v := encErr_iface he
    obtain ⟨T, v, hT⟩ := this
    simp [hS.P, hT]
    rw [aC_draw (hc := by kernel_rfl)]
    simp [hS.P, hS.e8]
    exact Leave.data (put_keeps (by simp) (keeps_refl H)) (by simp) (by simp [PortD.most, he, encErr])
theorem rmost_spec {X : Ctx} (hS : Sent X) (p : PortD) (he : p.err = .none) : ACalc X 106 [encPort p] (.tup [.int .i64 (if p.kind = 1 then 3 + p.size else p.most), .int .i64 0]) := by
  intro H
  refine acalls' (N := 23) (rs := [.tmp 2, .tmp 3]) [] (by rw [hS.P]; exact Tryz.func106) rfl rfl rfl (by decide) (by simp) ?_
  simp [entryR, hS.P]
  refine (rportCheck_spec hS p).go ?_
  obtain ⟨h1, h2, h3⟩ := isOut_err p he
  have hm : p.depth * (1 + p.size) ≤ 8 * 33 := Int.mul_le_mul (by omega) (by omega) (by omega) (by omega)
  have hm0 : 0 ≤ p.depth * (1 + p.size) := Int.mul_nonneg (by omega) (by omega)
  have e1 : IntKind.i64.wrap (1 + p.size) = 1 + p.size := wrap64 (by omega) (by omega)
  have e2 : IntKind.i64.wrap (p.depth * (1 + p.size)) = p.depth * (1 + p.size) := wrap64 (by omega) (by omega)
  have e3 : IntKind.i64.wrap (2 + p.depth * (1 + p.size)) = 2 + p.depth * (1 + p.size) := wrap64 (by omega) (by omega)
  have e4 : IntKind.i64.wrap (3 + p.size) = 3 + p.size := wrap64 (by omega) (by omega)
  have hk : p.kind = 1 ∨ p.kind = 2 ∨ p.kind = 3 ∨ p.kind = 4 := by omega
  rcases hk with hk | hk | hk | hk
  all_goals
    simp [hS.P, he, encPort, PE.code, hk, e1, e2, e3, e4]
    exact Leave.data (put_keeps (by simp) (keeps_refl H)) (by simp) (by simp [PortD.most, he, hk])
end Go.Proofs.YtndoembhbfiokaaGreatDoor.Am
set_option linter.unusedVariables false
set_option linter.unusedSimpArgs false
namespace Go.Proofs.YtndoembhbfiokaaGreatDoor.Am
open Go.RowKit Go.Proofs

/-- A cursor. -/
structure CSt where
  b : List UInt8
  at_ : Nat
  bound : Nat
def CSt.val (c : CSt) : AV := .agg [encBytes c.b, .int .i64 c.at_, .int .i64 c.bound]
structure CSt.Ok (c : CSt) : Prop where
  le : c.at_ ≤ c.bound
  le2 : c.bound ≤ c.b.length
  small : c.b.length ≤ 1073741824
/-- A cursor behind a pointer, still to be moved or not. -/
def CPtr (H : AH) (p : AV) (c : CSt) : Prop := (∃ i, p = .ptr i 0 0 0 ∧ H.get i = .row [c.val] 3 0) ∨ p = .eptr [c.val] 0 0

/-- The number of some bytes, the highest first. -/
def numOf (l : List UInt8) : Int := l.foldl (fun n b => n * 256 + b.toNat) 0
theorem numOf_snoc (l : List UInt8) (b : UInt8) : numOf (l ++ [b]) = numOf l * 256 + b.toNat := by simp [numOf]
theorem fold_bound : ∀ (l : List UInt8) (n : Int) (k : Nat), 0 ≤ n → n < 256 ^ k → 0 ≤ l.foldl (fun (n : Int) (b : UInt8) => n * 256 + (b.toNat : Int)) n ∧ l.foldl (fun (n : Int) (b : UInt8) => n * 256 + (b.toNat : Int)) n < 256 ^ (k + l.length)
  | [], n, k, h0, h1 => ⟨h0, by simpa using h1⟩
  | b :: l, n, k, h0, h1 => by
    have hb := b.toNat_lt
    have h2 : n * 256 + (b.toNat : Int) < 256 ^ (k + 1) := by rw [Int.pow_succ]; omega
    have := fold_bound l (n * 256 + b.toNat) (k + 1) (by omega) h2
    simp only [List.foldl_cons, List.length_cons]
    rw [show k + (l.length + 1) = k + 1 + l.length by omega]
    exact this
theorem numOf_bound (l : List UInt8) : 0 ≤ numOf l ∧ numOf l < 256 ^ l.length := by
  have := fold_bound l 0 0 (by omega) (by simp)
  rw [Nat.zero_add] at this
  exact this
theorem or_add (n : Int) (b : Nat) (h0 : 0 ≤ n) (h1 : n < 4294967296) (hb : b < 256) :
    IntKind.i64.wrap (((BitVec.ofInt IntKind.i64.bits (IntKind.i64.wrap (n * 2 ^ min 8 IntKind.i64.bits)) ||| BitVec.ofInt IntKind.i64.bits (b : Int)).toNat : Nat) : Int) = n * 256 + b := by
  obtain ⟨m, rfl⟩ := Int.eq_ofNat_of_zero_le h0
  have e1 : IntKind.i64.wrap ((m : Int) * 2 ^ min 8 IntKind.i64.bits) = ((m * 256 : Nat) : Int) := by
    rw [show min 8 IntKind.i64.bits = 8 from rfl, wrap64 (by omega) (by omega)]; simp
  rw [e1, show IntKind.i64.bits = 64 from rfl]
  have e2 : (BitVec.ofInt 64 ((m * 256 : Nat) : Int) ||| BitVec.ofInt 64 (b : Int)).toNat = m * 256 + b := by
    rw [BitVec.toNat_or, BitVec.ofInt_natCast, BitVec.ofInt_natCast, BitVec.toNat_ofNat, BitVec.toNat_ofNat, Nat.mod_eq_of_lt (by omega), Nat.mod_eq_of_lt (by omega)]
    rw [show m * 256 = m <<< 8 by simp [Nat.shiftLeft_eq], ← Nat.shiftLeft_add_eq_or_of_lt (by omega)]
  rw [e2, wrap64 (by omega) (by omega)]
  simp

end Go.Proofs.YtndoembhbfiokaaGreatDoor.Am
set_option linter.unusedVariables false
set_option linter.unusedSimpArgs false
namespace Go.Proofs.YtndoembhbfiokaaGreatDoor.Am
open Go.RowKit Go.Proofs

def CSt.num (c : CSt) (off w : Nat) : Int := numOf ((c.b.drop (c.at_ + off)).take w)
/-- A record's head: its tag, its body's length, or why there is none. -/
def CSt.head (c : CSt) : AV := if c.bound - c.at_ < 3 then .tup [.int .i64 0, .int .i64 0, encErr (.at c.at_ 1)] else .tup [.int .i64 (c.num 0 1), .int .i64 (c.num 1 2), encErr .none]
/-- One row of the caller's is turned, nothing else. -/
theorem keep_one {H H' : AH} {i ver sz ver' sz' : Nat} {xs ys : List AV} (hi : H.get i = .row xs sz ver) (hd : Slot.row ys sz' ver' ≠ .free) (hin : (Slot.row ys sz' ver').In fun k => H.get k ≠ .free)
    (h : ∀ k, H.get k ≠ .free → H'.get k = (H.put i (.row ys sz' ver')).get k) : Keep H H' (H.put i (.row ys sz' ver')) := by
  have hf : H.get i ≠ .free := AH.ne_free hi
  refine ⟨fun k hk => ?_, fun k hk => ⟨(h k hk).symm, ?_, ?_⟩⟩
  · have : k ≠ i := by rintro rfl; exact hf hk
    rw [AH.put_ne _ _ this]; exact hk
  · rw [AH.get_put]; split
    · exact hd
    · exact hk
  · rw [AH.get_put]; split
    · exact .inr hin
    · exact .inl rfl
/-- Into a record's body of n bytes. -/
def CSt.inn (c : CSt) (n : Nat) : CSt := ⟨c.b, c.at_ + 3, c.at_ + 3 + n⟩
def CSt.past (c : CSt) (n : Nat) : CSt := ⟨c.b, c.at_ + 3 + n, c.bound⟩
end Go.Proofs.YtndoembhbfiokaaGreatDoor.Am
set_option linter.unusedVariables false
set_option linter.unusedSimpArgs false
namespace Go.Proofs.YtndoembhbfiokaaGreatDoor.Am
open Go.RowKit Go.Proofs

def CSt.len (c : CSt) : Nat := (c.num 1 2).toNat
theorem num_nn (c : CSt) (off w : Nat) : 0 ≤ c.num off w := (numOf_bound _).1
theorem len_eq (c : CSt) : c.num 1 2 = (c.len : Int) := (Int.toNat_of_nonneg (num_nn c 1 2)).symm
theorem len_lt (c : CSt) : c.len ≤ 65535 := by
  have h := (numOf_bound ((c.b.drop (c.at_ + 1)).take 2)).2
  have h2 : ((c.b.drop (c.at_ + 1)).take 2).length ≤ 2 := by simp; omega
  have h3 : (256 : Int) ^ ((c.b.drop (c.at_ + 1)).take 2).length ≤ 65536 := by
    generalize ((c.b.drop (c.at_ + 1)).take 2).length = k at h2
    rcases (by omega : k = 0 ∨ k = 1 ∨ k = 2) with h | h | h <;> rw [h] <;> decide
  have : c.num 1 2 < 65536 := by unfold CSt.num; omega
  rw [len_eq] at this
  omega
/-- What stands in the way of the next record. -/
def CSt.nextE (c : CSt) : PE :=
  if c.bound - c.at_ < 3 then .at c.at_ 1 else if c.num 0 1 = 0 then .at c.at_ 3 else if c.bound - c.at_ - 3 < c.len then .at (c.at_ + 1) 5 else .none

end Go.Proofs.YtndoembhbfiokaaGreatDoor.Am
set_option linter.unusedVariables false
set_option linter.unusedSimpArgs false
namespace Go.Proofs.YtndoembhbfiokaaGreatDoor.Am
open Go.RowKit Go.Proofs

def CSt.recd (c : CSt) : RecD := ⟨c.num 0 1, (c.b.drop (c.at_ + 3)).take c.len⟩
def splitF : Nat → CSt → List RecD → List RecD × PE
  | 0, _, acc => (acc, .none)
  | k + 1, c, acc => if c.bound - c.at_ = 0 then (acc, .none) else if c.nextE = .none then splitF k (c.past c.len) (acc ++ [c.recd]) else ([], c.nextE)
def split (b : List UInt8) : List RecD × PE := splitF (b.length + 1) ⟨b, 0, b.length⟩ []
def encSplit (x : List RecD × PE) : AV := .tup [.fsl (x.1.map encRec), encErr x.2]
theorem next_ok_at {c : CSt} (hc : c.Ok) (he : c.nextE = .none) : 3 ≤ c.bound - c.at_ ∧ c.len ≤ c.bound - c.at_ - 3 := by
  unfold CSt.nextE at he
  split at he
  · cases he
  · split at he
    · cases he
    · split at he
      · cases he
      · omega
end Go.Proofs.YtndoembhbfiokaaGreatDoor.Am
set_option linter.unusedVariables false
set_option linter.unusedSimpArgs false
namespace Go.Proofs.YtndoembhbfiokaaGreatDoor.Am
open Go.RowKit Go.Proofs

def sameR (a b : List RecD) : Prop := a.length = b.length ∧ ∀ (i : Nat) (x y : RecD), a[i]? = some x → b[i]? = some y → x.tag = y.tag ∧ x.body = y.body
end Go.Proofs.YtndoembhbfiokaaGreatDoor.Am
set_option linter.unusedVariables false
set_option linter.unusedSimpArgs false
namespace Go.Proofs.YtndoembhbfiokaaGreatDoor.Am
open Go.RowKit Go.Proofs

/-- The program's writer and the document's stand alike. -/
def Sim (w : WSt) (r : RSt) : Prop := r.data = w.data ∧ ((w.err = .none ∧ r.code = 0) ∨ ∃ p g, w.err = .at p g ∧ r.code = codeG g ∧ r.place = p ∧ codeG g ≠ 0)
theorem sim_rcd {w : WSt} {r : RSt} (h : Sim w r) (tag : Int) (body : List UInt8) : Sim (w.rcd tag body) (r.rcd tag body) := by
  obtain ⟨hd, ⟨he, hc⟩ | ⟨p, g, he, hc, hp, hg⟩⟩ := h
  · unfold WSt.rcd RSt.rcd
    split
    · refine ⟨by simp [WSt.spoil, he, RSt.put, hc, hd], .inr ⟨w.data.length, 3, by simp [WSt.spoil, he], by simp [RSt.put, hc, codeG], by simp [RSt.put, hc, hd], by simp [codeG]⟩⟩
    · split
      · refine ⟨by simp [WSt.spoil, he, RSt.put, hc, hd], .inr ⟨w.data.length, 5, by simp [WSt.spoil, he], by simp [RSt.put, hc, codeG], by simp [RSt.put, hc, hd], by simp [codeG]⟩⟩
      · rename_i h1 h2
        have n1 : ∀ s : WSt, s.num tag 1 = s.put [byteAt tag 0] := fun s => by
          unfold WSt.num; rw [if_neg (by simp [mostOf]; omega)]; rfl
        have n2 : ∀ s : WSt, s.num body.length 2 = (s.put [byteAt body.length 1]).put [byteAt body.length 0] := fun s => by
          unfold WSt.num; rw [if_neg (by simp [mostOf]; omega)]; rfl
        have b0 : byteAt tag 0 = UInt8.ofNat (tag % 256).toNat := by simp [byteAt]
        have nb : numB (body.length : Int) 2 = [byteAt body.length 1, byteAt body.length 0] := by simp [numB, List.range_succ]
        rw [n1, n2]
        refine ⟨by simp [WSt.put, he, RSt.put, hc, hd, b0, nb], .inl ⟨by simp [WSt.put, he], by simp [RSt.put, hc]⟩⟩
  · have hc0 : r.code ≠ 0 := by rw [hc]; exact hg
    have w1 : ∀ b, w.put b = w := fun b => by simp [WSt.put, he]
    have w2 : ∀ g, w.spoil g = w := fun g => by simp [WSt.spoil, he]
    have w3 : ∀ n k, w.puts n k = w := fun n k => by
      induction k with
      | zero => rfl
      | succ k ih => simp only [WSt.puts, w1]; exact ih
    have w4 : ∀ n k, w.num n k = w := fun n k => by unfold WSt.num; split <;> simp [w2, w3]
    have r1 : ∀ b c, r.put b c = r := fun b c => by simp [RSt.put, hc0]
    have e1 : w.rcd tag body = w := by unfold WSt.rcd; (repeat' split) <;> simp [w1, w2, w4]
    have e2 : r.rcd tag body = r := by unfold RSt.rcd; (repeat' split) <;> simp [r1]
    rw [e1, e2]
    exact ⟨hd, .inr ⟨p, g, he, hc, hp, hg⟩⟩
theorem sim_fold : ∀ (l : List RecD) (w : WSt) (r : RSt), Sim w r → Sim (l.foldl (fun s x => s.rcd x.tag x.body) w) (l.foldl (fun s x => s.rcd x.tag x.body) r)
  | [], _, _, h => h
  | x :: l, w, r, h => sim_fold l _ _ (sim_rcd h x.tag x.body)
theorem rjoin_eq (l : List RecD) : (rjoinSt l).done = .tup [encBytes (joinSt l).out, encPR (joinSt l).err] := by
  have h : Sim (joinSt l) (rjoinSt l) := sim_fold l _ _ ⟨rfl, .inl ⟨rfl, rfl⟩⟩
  obtain ⟨hd, ⟨he, hc⟩ | ⟨p, g, he, hc, hp, hg⟩⟩ := h
  · simp [RSt.done, RSt.out, RSt.pl, WSt.out, hd, he, hc, encPR, PE.code, PE.place]
  · have hc0 : (rjoinSt l).code ≠ 0 := by rw [hc]; exact hg
    simp [RSt.done, RSt.out, RSt.pl, WSt.out, he, encPR, PE.code, PE.place, hc0]
    rw [hc, hp]
end Go.Proofs.YtndoembhbfiokaaGreatDoor.Am
set_option linter.unusedVariables false
set_option linter.unusedSimpArgs false
namespace Go.Proofs.YtndoembhbfiokaaGreatDoor.Am
open Go.RowKit Go.Proofs

theorem u16_spec {X : Ctx} (hS : Sent X) (iw ib : Nat) (s : WSt) (n : Int) (hl : s.data.length + 2 ≤ 1073741824) : WTurn X 57 iw ib [.ptr iw 0 0 0, .int .i64 n] s (s.num n 2) := by
  intro H hW
  refine acalls' (N := 7) (rs := []) [] (by rw [hS.P]; exact Tryz.func57) rfl rfl rfl (by decide) (by simp) ?_
  simp [entryR, hS.P]
  refine (num_spec hS iw ib s n 2 (.inr (.inl rfl)) (by omega)).go hW ?_
  simp
  exact Leave.stay ⟨rfl, rfl⟩
def CSt.endE (c : CSt) : PE := if c.bound - c.at_ = 0 then .none else .at c.at_ 2
/-- What stands in the way of the next record, which is to have that tag. -/
def CSt.recE (c : CSt) (tag : Int) : PE :=
  if c.bound - c.at_ < 3 then .at c.at_ 1 else if c.num 0 1 ≠ tag ∨ tag = 0 then .at c.at_ 3 else if c.bound - c.at_ - 3 < c.len then .at (c.at_ + 1) 5 else .none
end Go.Proofs.YtndoembhbfiokaaGreatDoor.Am
set_option linter.unusedVariables false
set_option linter.unusedSimpArgs false
namespace Go.Proofs.YtndoembhbfiokaaGreatDoor.Am
open Go.RowKit Go.Proofs

def encInt (n : Int) : AV := .int .i64 n
def expectF : List Int → CSt → List (List UInt8) → List (List UInt8) × PE
  | [], c, acc => if c.endE = .none then (acc, .none) else ([], c.endE)
  | t :: ts, c, acc => if c.recE t = .none then expectF ts (c.past c.len) (acc ++ [(c.b.drop (c.at_ + 3)).take c.len]) else ([], c.recE t)
def expect (b : List UInt8) (tags : List Int) : List (List UInt8) × PE := expectF tags ⟨b, 0, b.length⟩ []
def encExpect (x : List (List UInt8) × PE) : AV := .tup [.fsl (x.1.map encBytes), encErr x.2]
theorem rec_ok_at {c : CSt} {t : Int} (hc : c.Ok) (he : c.recE t = .none) : 3 ≤ c.bound - c.at_ ∧ c.len ≤ c.bound - c.at_ - 3 := by
  unfold CSt.recE at he
  split at he
  · cases he
  · split at he
    · cases he
    · split at he
      · cases he
      · omega
theorem recE_at {c : CSt} {t : Int} (he : c.recE t ≠ .none) : ∃ p g, c.recE t = .at p g := by
  cases h : c.recE t with
  | none => exact absurd h he
  | bare g => unfold CSt.recE at h; (repeat' split at h) <;> cases h
  | «at» p g => exact ⟨p, g, rfl⟩
end Go.Proofs.YtndoembhbfiokaaGreatDoor.Am
set_option linter.unusedVariables false
set_option linter.unusedSimpArgs false
namespace Go.Proofs.YtndoembhbfiokaaGreatDoor.Am
open Go.RowKit Go.Proofs

theorem planAt_spec {X : Ctx} (hS : Sent X) (p : Int) (g : Nat) : ACalc X 84 [.int .i64 p, sentV g] (encErr (.at p g)) := by
  intro H
  refine acalls' (N := 10) (rs := [.tmp 4]) [] (by rw [hS.P]; exact Tryz.func84) rfl rfl rfl (by decide) (by simp) ?_
  simp [entryR, hS.P]
  refine Leave.frz (id := H.nx) (AH.get_put_same _ _ _) (.iface _ _ _ (.ptr 0 0)) ?_
  refine Leave.data (put_keeps (by simp) (put_keeps (by simp) (keeps_refl H))) (by simp) (by simp [encErr])

structure PageD where
  rights : Int
  init : List UInt8
def encPage (p : PageD) : AV := .agg [.int .i64 p.rights, .str p.init]
@[simp] theorem encPage_data (p : PageD) : (encPage p).Data := by simp [encPage]
@[simp] theorem encPage_good (p : PageD) : (encPage p).good = true := rfl
@[simp] theorem encPage_cells (p : PageD) : (encPage p).cells = [.int .i64 p.rights, .str p.init] := rfl
structure ProcD where
  entry : Int
  prio : Int
  auto : Bool
def encProc (p : ProcD) : AV := .agg [.int .i64 p.entry, .int .i64 p.prio, .bool p.auto]
@[simp] theorem encProc_data (p : ProcD) : (encProc p).Data := by simp [encProc]
@[simp] theorem encProc_good (p : ProcD) : (encProc p).good = true := rfl
@[simp] theorem encProc_cells (p : ProcD) : (encProc p).cells = [.int .i64 p.entry, .int .i64 p.prio, .bool p.auto] := rfl
structure PlanD where
  id : Int
  mobile : Bool
  pages : List PageD
  procs : List ProcD
  ports : List PortD
  events : Int
  sems : List Int
def encPlan (p : PlanD) : AV := .agg [.int .i64 p.id, .bool p.mobile, .fsl (p.pages.map encPage), .fsl (p.procs.map encProc), .fsl (p.ports.map encPort), .int .i64 p.events, .fsl (p.sems.map encInt)]
@[simp] theorem encPlan_data (p : PlanD) : (encPlan p).Data := by
  simp [encPlan, encInt]
@[simp] theorem encPlan_cells (p : PlanD) : (encPlan p).cells = [.int .i64 p.id, .bool p.mobile, .fsl (p.pages.map encPage), .fsl (p.procs.map encProc), .fsl (p.ports.map encPort), .int .i64 p.events, .fsl (p.sems.map encInt)] := rfl
@[simp] theorem encPlan_good (p : PlanD) : (encPlan p).good = true := rfl

/-- The first of a list that is wrong: its place and the fault's code. -/
def firstBad {A : Type} (f : A → Nat) : List A → Nat → PE
  | [], _ => .none
  | a :: l, i => if f a = 0 then firstBad f l (i + 1) else .at i (f a)
def PageD.bad (p : PageD) : Nat := if p.rights < 0 ∨ 7 < p.rights then 4 else if 64 < p.init.length then 5 else 0
def pagesE (p : PlanD) : PE := if p.pages.length < 1 ∨ 32 < p.pages.length then .bare 11 else firstBad PageD.bad p.pages 0
def ProcD.bad (n : Nat) (p : ProcD) : Nat := if p.entry < 0 ∨ 64 * (n : Int) ≤ p.entry ∨ p.entry.tmod 4 ≠ 0 ∨ p.prio < 0 ∨ 255 < p.prio then 4 else 0
def procsE (p : PlanD) : PE := if p.procs.length < 1 ∨ 8 < p.procs.length then .bare 11 else firstBad (ProcD.bad p.pages.length) p.procs 0
theorem keepsNx {H K : AH} (h : ∀ i, H.get i ≠ .free → K.get i = H.get i) : H.get K.nx = .free :=
  Classical.byContradiction fun hne => by have := h _ hne; rw [AH.fresh K] at this; exact hne this.symm
theorem firstBad_drop {A : Type} {f : A → Nat} {l : List A} {n : Nat} {a : A} (h : l[n]? = some a) (i : Nat) : firstBad f (l.drop n) i = if f a = 0 then firstBad f (l.drop (n + 1)) (i + 1) else .at i (f a) := by
  obtain ⟨hn, he⟩ := List.getElem?_eq_some_iff.1 h
  rw [List.drop_eq_getElem_cons hn, he]; rfl
theorem wrap1 {n : Nat} (h : n ≤ 4611686018427387904) : IntKind.i64.wrap ((n : Int) + 1) = ((n + 1 : Nat) : Int) := by rw [wrap64 (by omega) (by omega)]; simp
theorem checkPages_spec {X : Ctx} (hS : Sent X) (p : PlanD) (hl : p.pages.length ≤ 1073741824) : ACalc X 50 [encPlan p] (encErr (pagesE p)) := by
  intro H
  refine acalls' (N := 43) (rs := [.tmp 2]) [] (by rw [hS.P]; exact Tryz.func50) rfl rfl rfl (by decide) (by simp) ?_
  have hk0 : ∀ i, H.get i ≠ .free → (H.put H.nx (.row [encPlan p] 7 0)).get i = H.get i := put_keeps (by simp) (keeps_refl H)
  have e11 : p.pages.length < 1 ∨ 32 < p.pages.length → pagesE p = .bare 11 := fun h => by simp only [pagesE, if_pos h]
  simp [entryR, hS.P, encPlan]
  refine aGuard_decf (fun h1 => ?_) (fun h1 => ?_)
  · simp [h1, hS.P, hS.e11]
    exact Leave.data hk0 (by simp) (by rw [e11 (by omega)]; exact ⟨rfl, rfl⟩)
  simp [h1, hS.P]
  refine aCond_mk (fun h2 => ?_) (fun h2 => ?_)
  · simp at h2
    simp [hS.P, hS.e11]
    exact Leave.data hk0 (by simp) (by rw [e11 (by omega)]; exact ⟨rfl, rfl⟩)
  simp at h2
  have hp : pagesE p = firstBad PageD.bad p.pages 0 := by simp only [pagesE]; rw [if_neg (by omega)]
  simp [hS.P]
  refine AWp.loop (S := Nat × AH) (fun s => s.1 ≤ p.pages.length ∧ firstBad PageD.bad (p.pages.drop s.1) s.1 = pagesE p ∧ ∀ i, H.get i ≠ .free → s.2.get i = H.get i)
    (fun s => [(17, .fsl (p.pages.map encPage)), (18, .int .i64 p.pages.length), (19, .int .i64 s.1)]) (fun s => s.2) (fun s => p.pages.length - s.1) (0, _) ⟨Nat.zero_le _, by simp [hp], hk0⟩ (Wk.regs (by simp)) fun s hs => ?_
  obtain ⟨n, K⟩ := s
  obtain ⟨hn, hF, hk⟩ := hs
  simp only at hn hF hk
  refine aC_sound (lv := []) _ _ _ _ ?_
  simp [hS.P]
  refine aCond_dec (fun hlt => ?_) (fun hge => ?_)
  · obtain ⟨x, hx⟩ : ∃ x, p.pages[n]? = some x := ⟨p.pages[n], List.getElem?_eq_getElem hlt⟩
    rw [firstBad_drop hx] at hF
    simp [hS.P, hx]
    refine aGuard_decf (fun h3 => ?_) (fun h3 => ?_)
    · have hb : x.bad = 4 := by simp [PageD.bad, h3]
      simp [h3, hS.P, hS.e4]
      refine (planAt_spec hS n 4).go ?_
      simp [hS.P]
      exact Leave.data (put_keeps (keepsNx hk) hk) (by simp) (by rw [← hF, hb]; exact ⟨rfl, rfl⟩)
    simp [h3, hS.P]
    refine aCond_dec (fun h4 => ?_) (fun h4 => ?_)
    · have hb : x.bad = 4 := by simp [PageD.bad, h4]
      simp [hS.P, hS.e4]
      refine (planAt_spec hS n 4).go ?_
      simp [hS.P]
      exact Leave.data (put_keeps (keepsNx hk) hk) (by simp) (by rw [← hF, hb]; exact ⟨rfl, rfl⟩)
    simp [hS.P]
    refine aCond_mk (fun h5 => ?_) (fun h5 => ?_)
    · simp at h5
      have hb : x.bad = 5 := by simp [PageD.bad, h3, h4]; omega
      simp [hS.P, hS.e5]
      refine (planAt_spec hS n 5).go ?_
      simp [hS.P]
      exact Leave.data (put_keeps (keepsNx hk) hk) (by simp) (by rw [← hF, hb]; exact ⟨rfl, rfl⟩)
    simp at h5
    have hb : x.bad = 0 := by simp [PageD.bad, h3, h4]; omega
    rw [hb, if_pos rfl] at hF
    simp [hS.P]
    exact ⟨n + 1, _, ⟨hlt, hF, put_keeps (keepsNx hk) hk⟩, by omega, Wk.regs (by simp [wrap1 (n := n) (by omega)])⟩
  · obtain rfl : n = p.pages.length := by omega
    simp at hF
    simp
    exact Leave.data hk (by simp) (by rw [← hF]; exact ⟨rfl, rfl⟩)
end Go.Proofs.YtndoembhbfiokaaGreatDoor.Am
set_option linter.unusedVariables false
set_option linter.unusedSimpArgs false
namespace Go.Proofs.YtndoembhbfiokaaGreatDoor.Am
open Go.RowKit Go.Proofs

theorem checkProcs_spec {X : Ctx} (hS : Sent X) (p : PlanD) (hl : p.procs.length ≤ 1073741824) (hl2 : p.pages.length ≤ 1073741824) : ACalc X 51 [encPlan p] (encErr (procsE p)) := by
  intro H
  refine acalls' (N := 56) (rs := [.tmp 2]) [] (by rw [hS.P]; exact Tryz.func51) rfl rfl rfl (by decide) (by simp) ?_
  generalize hV : encPlan p = V
  have hk0 : ∀ i, H.get i ≠ .free → (H.put H.nx (.row [V] 7 0)).get i = H.get i := put_keeps (by simp) (keeps_refl H)
  rw [← hV]
  have e11 : p.procs.length < 1 ∨ 8 < p.procs.length → procsE p = .bare 11 := fun h => by simp only [procsE, if_pos h]
  simp [entryR, hS.P, encPlan]
  refine aGuard_decf (fun h1 => ?_) (fun h1 => ?_)
  · simp [h1, hS.P, hS.e11]
    exact Leave.data (put_keeps (by simp) (keeps_refl H)) (by simp) (by rw [e11 (by omega)]; exact ⟨rfl, rfl⟩)
  simp [h1, hS.P]
  refine aCond_mk (fun h2 => ?_) (fun h2 => ?_)
  · simp at h2
    simp [hS.P, hS.e11]
    exact Leave.data (put_keeps (by simp) (keeps_refl H)) (by simp) (by rw [e11 (by omega)]; exact ⟨rfl, rfl⟩)
  simp at h2
  have hp : procsE p = firstBad (ProcD.bad p.pages.length) p.procs 0 := by simp only [procsE]; rw [if_neg (by omega)]
  simp [hS.P]
  refine AWp.loop (S := Nat × AH) (fun s => s.1 ≤ p.procs.length ∧ firstBad (ProcD.bad p.pages.length) (p.procs.drop s.1) s.1 = procsE p ∧ s.2.get H.nx = .row [encPlan p] 7 0 ∧ ∀ i, H.get i ≠ .free → s.2.get i = H.get i)
    (fun s => [(1, .ptr H.nx 0 0 0), (17, .fsl (p.procs.map encProc)), (18, .int .i64 p.procs.length), (19, .int .i64 s.1)]) (fun s => s.2) (fun s => p.procs.length - s.1) (0, _) ⟨Nat.zero_le _, by simp [hp], by simp [encPlan], put_keeps (by simp) (keeps_refl H)⟩ (Wk.regs (by simp)) fun s hs => ?_
  obtain ⟨n, K⟩ := s
  obtain ⟨hn, hF, hg, hk⟩ := hs
  simp only at hn hF hk hg
  have hne : ¬ H.nx = K.nx := fun h => by have := AH.lt_nx (AH.ne_free hg); omega
  have hlen : IntKind.i64.wrap (64 * (p.pages.length : Int)) = 64 * (p.pages.length : Int) := wrap64 (by omega) (by omega)
  refine aC_sound (lv := []) _ _ _ _ ?_
  simp [hS.P]
  refine aCond_dec (fun hlt => ?_) (fun hge => ?_)
  · obtain ⟨x, hx⟩ : ∃ x, p.procs[n]? = some x := ⟨p.procs[n], List.getElem?_eq_getElem hlt⟩
    rw [firstBad_drop hx] at hF
    have bad : (x.entry < 0 ∨ 64 * (p.pages.length : Int) ≤ x.entry ∨ x.entry.tmod 4 ≠ 0 ∨ x.prio < 0 ∨ 255 < x.prio) → procsE p = .at n 4 := fun h => by
      have hb : x.bad p.pages.length = 4 := by simp only [ProcD.bad, if_pos h]
      rw [← hF, hb]; rfl
    have fin : ∀ {K' : AH}, procsE p = .at n 4 → (∀ i, H.get i ≠ .free → K'.get i = H.get i) → Leave X H (encErr (.at n 4)) K' fun v' H' => v' = encErr (procsE p) ∧ H' = H := fun h hk' => Leave.data hk' (by simp) (by rw [h]; exact ⟨rfl, rfl⟩)
    simp [hS.P, hx]
    refine aGuard_decf (fun h3 => ?_) (fun h3 => ?_)
    · simp [h3, hS.P, hS.e4]
      refine (planAt_spec hS n 4).go ?_
      simp [hS.P]
      exact fin (bad (.inl h3)) (put_keeps (keepsNx hk) hk)
    simp [h3, hS.P, hg, hne, encPlan, hlen]
    refine aGuard_decf (fun h4 => ?_) (fun h4 => ?_)
    · simp [h4, hS.P, hS.e4]
      refine (planAt_spec hS n 4).go ?_
      simp [hS.P]
      exact fin (bad (.inr (.inl h4))) (put_keeps (keepsNx hk) hk)
    simp [h4, hS.P]
    by_cases h5 : x.entry.tmod 4 = 0
    · simp [h5, hS.P]
      refine aGuard_decf (fun h6 => ?_) (fun h6 => ?_)
      · simp [h6, hS.P, hS.e4]
        refine (planAt_spec hS n 4).go ?_
        simp [hS.P]
        exact fin (bad (.inr (.inr (.inr (.inl h6))))) (put_keeps (keepsNx hk) hk)
      simp [h6, hS.P]
      refine aCond_dec (fun h7 => ?_) (fun h7 => ?_)
      · simp [hS.P, hS.e4]
        refine (planAt_spec hS n 4).go ?_
        simp [hS.P]
        exact fin (bad (.inr (.inr (.inr (.inr h7))))) (put_keeps (keepsNx hk) hk)
      · simp
        have hb : x.bad p.pages.length = 0 := by simp only [ProcD.bad]; rw [if_neg (by omega)]
        rw [hb, if_pos rfl] at hF
        exact ⟨n + 1, _, ⟨hlt, hF, by simp [hne, hg, encPlan], put_keeps (keepsNx hk) hk⟩, by omega, Wk.regs (by simp [wrap1 (n := n) (by omega)])⟩
    · simp [h5, hS.P, hS.e4]
      refine (planAt_spec hS n 4).go ?_
      simp [hS.P]
      exact fin (bad (.inr (.inr (.inl h5)))) (put_keeps (keepsNx hk) hk)
  · obtain rfl : n = p.procs.length := by omega
    simp at hF
    simp
    exact Leave.data hk (by simp) (by rw [← hF]; exact ⟨rfl, rfl⟩)
end Go.Proofs.YtndoembhbfiokaaGreatDoor.Am
set_option linter.unusedVariables false
set_option linter.unusedSimpArgs false
namespace Go.Proofs.YtndoembhbfiokaaGreatDoor.Am
open Go.RowKit Go.Proofs

def PortD.bad (p : PortD) : Nat := match p.err with
  | .bare c => c
  | _ => 0
theorem PortD.err_cases (p : PortD) : (p.bad = 0 ∧ p.err = .none) ∨ (p.err = .bare p.bad ∧ 1 ≤ p.bad ∧ p.bad ≤ 20) := by
  have : p.err = .none ∨ p.err = .bare 7 ∨ p.err = .bare 11 ∨ p.err = .bare 4 := by unfold PortD.err; (repeat' split) <;> simp
  unfold PortD.bad
  rcases this with h | h | h | h <;> simp [h]
theorem PortD.most_le (p : PortD) : 0 ≤ p.most ∧ p.most ≤ 266 := by
  unfold PortD.most
  split
  · omega
  · rename_i h
    obtain ⟨h1, h2, h3⟩ := isOut_err p (Classical.not_not.1 h)
    split
    · omega
    · have hm : p.depth * (1 + p.size) ≤ 8 * 33 := Int.mul_le_mul (by omega) (by omega) (by omega) (by omega)
      have hm0 : 0 ≤ p.depth * (1 + p.size) := Int.mul_nonneg (by omega) (by omega)
      omega
def portSum (l : List PortD) : Int := (l.map fun p => 3 + p.most).sum
theorem portSum_le : ∀ l : List PortD, 0 ≤ portSum l ∧ portSum l ≤ 269 * l.length
  | [] => by simp [portSum]
  | p :: l => by
    have h1 := portSum_le l
    have h2 := p.most_le
    simp [portSum] at *
    omega
theorem portSum_take {l : List PortD} {n : Nat} {x : PortD} (h : l[n]? = some x) : portSum (l.take (n + 1)) = portSum (l.take n) + (3 + x.most) := by
  obtain ⟨hn, he⟩ := List.getElem?_eq_some_iff.1 h
  simp [portSum, List.take_add_one, h]
def boundI (p : PlanD) : Int := 58 + 76 * p.procs.length + 68 * p.pages.length + p.events + p.sems.length + portSum p.ports
structure PlanD.Small (p : PlanD) : Prop where
  pages : p.pages.length ≤ 1073741824
  procs : p.procs.length ≤ 1073741824
  ports : p.ports.length ≤ 1073741824
  sems : p.sems.length ≤ 1073741824
theorem bound_spec {X : Ctx} (hS : Sent X) (p : PlanD) (hp : p.Small) (he : -1099511627776 ≤ p.events ∧ p.events ≤ 1099511627776) : ACalc X 49 [encPlan p] (.int .i64 (boundI p)) := by
  intro H
  refine acalls' (N := 43) (rs := [.tmp 2]) [] (by rw [hS.P]; exact Tryz.func49) rfl rfl rfl (by decide) (by simp) ?_
  obtain ⟨l1, l2, l3, l4⟩ := hp
  have w1 : IntKind.i64.wrap (76 * (p.procs.length : Int)) = 76 * (p.procs.length : Int) := wrap64 (by omega) (by omega)
  have w2 : IntKind.i64.wrap (58 + 76 * (p.procs.length : Int)) = 58 + 76 * (p.procs.length : Int) := wrap64 (by omega) (by omega)
  have w3 : IntKind.i64.wrap (68 * (p.pages.length : Int)) = 68 * (p.pages.length : Int) := wrap64 (by omega) (by omega)
  have w4 : IntKind.i64.wrap (58 + 76 * (p.procs.length : Int) + 68 * (p.pages.length : Int)) = 58 + 76 * (p.procs.length : Int) + 68 * (p.pages.length : Int) := wrap64 (by omega) (by omega)
  have w5 : IntKind.i64.wrap (58 + 76 * (p.procs.length : Int) + 68 * (p.pages.length : Int) + p.events) = 58 + 76 * (p.procs.length : Int) + 68 * (p.pages.length : Int) + p.events := wrap64 (by omega) (by omega)
  have w6 : IntKind.i64.wrap (58 + 76 * (p.procs.length : Int) + 68 * (p.pages.length : Int) + p.events + p.sems.length) = 58 + 76 * (p.procs.length : Int) + 68 * (p.pages.length : Int) + p.events + p.sems.length := wrap64 (by omega) (by omega)
  simp [entryR, hS.P, encPlan, w1, w2, w3, w4, w5, w6]
  generalize hB : 58 + 76 * (p.procs.length : Int) + 68 * (p.pages.length : Int) + p.events + p.sems.length = B
  have hBb : -1099511627776 ≤ B ∧ B ≤ 3298534883328 := by omega
  refine AWp.loop (S := Nat × AH) (fun s => s.1 ≤ p.ports.length ∧ ∀ i, H.get i ≠ .free → s.2.get i = H.get i)
    (fun s => [(3, .int .i64 (B + portSum (p.ports.take s.1))), (26, .fsl (p.ports.map encPort)), (27, .int .i64 p.ports.length), (28, .int .i64 s.1)]) (fun s => s.2) (fun s => p.ports.length - s.1) (0, _) ⟨Nat.zero_le _, put_keeps (by simp) (keeps_refl H)⟩ (Wk.regs (by simp [portSum])) fun s hs => ?_
  obtain ⟨n, K⟩ := s
  obtain ⟨hn, hk⟩ := hs
  simp only at hn hk
  refine aC_sound (lv := []) _ _ _ _ ?_
  simp [hS.P]
  refine aCond_dec (fun hlt => ?_) (fun hge => ?_)
  · obtain ⟨x, hx⟩ : ∃ x, p.ports[n]? = some x := ⟨p.ports[n], List.getElem?_eq_getElem hlt⟩
    obtain ⟨e, hm⟩ := most7_spec hS x
    have b1 := x.most_le
    have b2 := portSum_le (p.ports.take n)
    have b3 : (p.ports.take n).length ≤ n := by simp; omega
    have v1 : IntKind.i64.wrap (3 + x.most) = 3 + x.most := wrap64 (by omega) (by omega)
    have v2 : IntKind.i64.wrap (B + portSum (p.ports.take n) + (3 + x.most)) = B + portSum (p.ports.take (n + 1)) := by
      rw [portSum_take hx, wrap64 (by omega) (by omega)]; omega
    simp [hS.P, hx]
    refine hm.go ?_
    simp [hS.P, v1, v2]
    exact ⟨n + 1, _, ⟨hlt, put_keeps (keepsNx hk) hk⟩, by omega, Wk.regs (by simp [wrap1 (n := n) (by omega)])⟩
  · obtain rfl : n = p.ports.length := by omega
    simp
    exact Leave.data hk (by simp) ⟨by simp [boundI, ← hB], rfl⟩

def PE.or : PE → PE → PE
  | .none, e => e
  | e, _ => e
def semBad (n : Int) : Nat := if n < 0 ∨ 255 < n then 4 else 0
def portsE (p : PlanD) : PE := if 8 < p.ports.length then .bare 11 else firstBad PortD.bad p.ports 0
def semsE (p : PlanD) : PE := if p.events < 0 ∨ 8 < p.events then .bare 4 else if 8 < p.sems.length then .bare 11 else firstBad semBad p.sems 0
def boundE (p : PlanD) : PE := if 4096 < boundI p then .bare 11 else .none
def restE (p : PlanD) : PE := (portsE p).or ((semsE p).or (boundE p))
end Go.Proofs.YtndoembhbfiokaaGreatDoor.Am
set_option linter.unusedVariables false
set_option linter.unusedSimpArgs false
namespace Go.Proofs.YtndoembhbfiokaaGreatDoor.Am
open Go.RowKit Go.Proofs

theorem checkRest_spec {X : Ctx} (hS : Sent X) (p : PlanD) (hp : p.Small) : ACalc X 52 [encPlan p] (encErr (restE p)) := by
  intro H
  refine acalls' (N := 65) (rs := [.tmp 2]) [] (by rw [hS.P]; exact Tryz.func52) rfl rfl rfl (by decide) (by simp) ?_
  obtain ⟨l1, l2, l3, l4⟩ := id hp
  simp [entryR, hS.P, encPlan]
  refine aCond_mk (fun h1 => ?_) (fun h1 => ?_)
  · simp at h1
    simp [hS.P, hS.e11]
    exact Leave.data (put_keeps (by simp) (keeps_refl H)) (by simp) ⟨by simp only [restE, portsE]; rw [if_pos (by omega)]; rfl, rfl⟩
  simp at h1
  have hpE : portsE p = firstBad PortD.bad p.ports 0 := by simp only [portsE]; rw [if_neg (by omega)]
  simp [hS.P]
  refine AWp.loop (S := Nat × AH) (fun s => s.1 ≤ p.ports.length ∧ firstBad PortD.bad (p.ports.drop s.1) s.1 = portsE p ∧ s.2.get H.nx = .row [encPlan p] 7 0 ∧ ∀ i, H.get i ≠ .free → s.2.get i = H.get i)
    (fun s => [(1, .ptr H.nx 0 0 0), (14, .fsl (p.ports.map encPort)), (15, .int .i64 p.ports.length), (16, .int .i64 s.1)]) (fun s => s.2) (fun s => p.ports.length - s.1) (0, _) ⟨Nat.zero_le _, by simp [hpE], by simp [encPlan], put_keeps (by simp) (keeps_refl H)⟩ (Wk.regs (by simp)) fun s hs => ?_
  obtain ⟨n, K⟩ := s
  obtain ⟨hn, hF, hg, hk⟩ := hs
  simp only at hn hF hk hg
  have hne : ¬ H.nx = K.nx := fun h => by have := AH.lt_nx (AH.ne_free hg); omega
  refine aC_sound (lv := []) _ _ _ _ ?_
  simp [hS.P]
  refine aCond_dec (fun hlt => ?_) (fun hge => ?_)
  · obtain ⟨x, hx⟩ : ∃ x, p.ports[n]? = some x := ⟨p.ports[n], List.getElem?_eq_getElem hlt⟩
    rw [firstBad_drop hx] at hF
    simp [hS.P, hx]
    refine (portCheck_spec hS x).go ?_
    rcases x.err_cases with ⟨hb, he⟩ | ⟨he, hb1, hb2⟩
    · rw [hb, if_pos rfl] at hF
      simp [hS.P, he, encErr]
      exact ⟨n + 1, _, ⟨hlt, hF, by simp [hne, hg], put_keeps (keepsNx hk) hk⟩, by omega, Wk.regs (by simp [wrap1 (n := n) (by omega)])⟩
    · rw [if_neg (by omega)] at hF
      simp [hS.P, he, encErr, sentV]
      refine (planAt_spec hS n x.bad).go ?_
      simp [hS.P]
      exact Leave.data (put_keeps (keepsNx hk) hk) (by simp) ⟨by simp only [restE, ← hF]; rfl, rfl⟩
  · obtain rfl : n = p.ports.length := by omega
    simp at hF
    have hR : restE p = (semsE p).or (boundE p) := by simp only [restE, ← hF]; rfl
    rw [hR]
    simp [hS.P, hg, encPlan]
    refine aGuard_decf (fun h2 => ?_) (fun h2 => ?_)
    · simp [h2, hS.P, hS.e4]
      exact Leave.data hk (by simp) (by simp [semsE, h2, PE.or, encErr])
    simp [h2, hS.P, hg, encPlan]
    refine aCond_dec (fun h3 => ?_) (fun h3 => ?_)
    · simp [hS.P, hS.e4]
      exact Leave.data hk (by simp) (by simp [semsE, h2, h3, PE.or, encErr])
    simp [hS.P, hg, encPlan]
    refine aCond_mk (fun h4 => ?_) (fun h4 => ?_)
    · simp at h4
      simp [hS.P, hS.e11]
      exact Leave.data hk (by simp) ⟨by simp only [semsE]; rw [if_neg (by omega), if_pos (by omega)]; rfl, rfl⟩
    simp at h4
    have hsE : semsE p = firstBad semBad p.sems 0 := by simp only [semsE]; rw [if_neg (by omega), if_neg (by omega)]
    simp [hS.P, hg, encPlan]
    refine AWp.loop (S := Nat × AH) (fun s => s.1 ≤ p.sems.length ∧ firstBad semBad (p.sems.drop s.1) s.1 = semsE p ∧ s.2.get H.nx = .row [encPlan p] 7 0 ∧ ∀ i, H.get i ≠ .free → s.2.get i = H.get i)
      (fun s => [(1, .ptr H.nx 0 0 0), (44, .fsl (p.sems.map encInt)), (45, .int .i64 p.sems.length), (46, .int .i64 s.1)]) (fun s => s.2) (fun s => p.sems.length - s.1) (0, _) ⟨Nat.zero_le _, by simp [hsE], hg, hk⟩ (Wk.regs (by simp)) fun s hs => ?_
    obtain ⟨n, K⟩ := s
    obtain ⟨hn, hF, hg, hk⟩ := hs
    simp only at hn hF hk hg
    refine aC_sound (lv := []) _ _ _ _ ?_
    simp [hS.P]
    refine aCond_dec (fun hlt => ?_) (fun hge => ?_)
    · obtain ⟨x, hx⟩ : ∃ x, p.sems[n]? = some x := ⟨p.sems[n], List.getElem?_eq_getElem hlt⟩
      rw [firstBad_drop hx] at hF
      simp [hS.P, hx, encInt]
      refine aGuard_decf (fun h5 => ?_) (fun h5 => ?_)
      · have hb : semBad x = 4 := by simp [semBad, h5]
        simp [h5, hS.P, hS.e4]
        refine (planAt_spec hS n 4).go ?_
        simp [hS.P]
        exact Leave.data hk (by simp) ⟨by rw [← hF, hb]; rfl, rfl⟩
      simp [h5, hS.P]
      refine aCond_dec (fun h6 => ?_) (fun h6 => ?_)
      · have hb : semBad x = 4 := by simp [semBad, h6]
        simp [hS.P, hS.e4]
        refine (planAt_spec hS n 4).go ?_
        simp [hS.P]
        exact Leave.data hk (by simp) ⟨by rw [← hF, hb]; rfl, rfl⟩
      · have hb : semBad x = 0 := by simp only [semBad]; rw [if_neg (by omega)]
        rw [hb, if_pos rfl] at hF
        simp
        exact ⟨n + 1, _, ⟨hlt, hF, hg, hk⟩, by omega, Wk.regs (by simp [wrap1 (n := n) (by omega), encInt])⟩
    · obtain rfl : n = p.sems.length := by omega
      simp at hF
      have hR : (semsE p).or (boundE p) = boundE p := by rw [← hF]; rfl
      rw [hR]
      simp [hS.P, hg]
      refine (bound_spec hS p hp (by omega)).go ?_
      simp [hS.P]
      refine aCond_dec (fun h5 => ?_) (fun h5 => ?_)
      · simp [hS.P, hS.e11]
        exact Leave.data hk (by simp) ⟨by simp [boundE, h5, encErr], rfl⟩
      · simp
        exact Leave.data hk (by simp) ⟨by simp [boundE, h5, encErr], rfl⟩
def idE (p : PlanD) : PE := if p.id < 0 ∨ 2147483647 < p.id then .bare 4 else .none
def planE (p : PlanD) : PE := (idE p).or ((pagesE p).or ((procsE p).or (restE p)))
def ckInv (p : PlanD) (H : AH) (s : Nat × AH) : Prop :=
  s.1 ≤ 3 ∧ (s.1 = 1 → pagesE p = .none) ∧ (s.1 = 2 → pagesE p = .none ∧ procsE p = .none) ∧ (s.1 = 3 → planE p = .none) ∧ s.2.get H.nx = .row [encPlan p] 7 0 ∧ ∀ i, H.get i ≠ .free → s.2.get i = H.get i
theorem planCheck_spec {X : Ctx} (hS : Sent X) (p : PlanD) (hp : p.Small) : ACalc X 21 [encPlan p] (encErr (planE p)) := by
  intro H
  refine acalls' (N := 28) (rs := [.tmp 2]) [] (by rw [hS.P]; exact Tryz.func21) rfl rfl rfl (by decide) (by simp) ?_
  obtain ⟨l1, l2, l3, l4⟩ := id hp
  simp [entryR, hS.P, encPlan]
  refine aGuard_decf (fun h1 => ?_) (fun h1 => ?_)
  · simp [h1, hS.P, hS.e4]
    exact Leave.data (put_keeps (by simp) (keeps_refl H)) (by simp) (by simp [planE, idE, h1, PE.or, encErr])
  simp [h1, hS.P]
  refine aCond_dec (fun h2 => ?_) (fun h2 => ?_)
  · simp [hS.P, hS.e4]
    exact Leave.data (put_keeps (by simp) (keeps_refl H)) (by simp) (by simp [planE, idE, h1, h2, PE.or, encErr])
  simp [hS.P]
  have fin : ∀ {K : AH}, (∀ i, H.get i ≠ .free → K.get i = H.get i) → ∀ e : PE, e = planE p → Leave X H (encErr e) K fun v' H' => v' = encErr (planE p) ∧ H' = H := fun hk e he => Leave.data hk (by simp) ⟨by rw [he], rfl⟩
  have hidE : idE p = .none := by simp [idE, h1, h2]
  refine AWp.loop (S := Nat × AH) (ckInv p H)
    (fun s => [(1, .ptr H.nx 0 0 0), (15, .csl [.func (.func 50) [] [], .func (.func 51) [] [], .func (.func 52) [] []]), (16, .int .i64 3), (17, .int .i64 s.1)]) (fun s => s.2) (fun s => 3 - s.1) (0, _) ⟨by omega, by simp, by simp, by simp, by simp [encPlan], put_keeps (by simp) (keeps_refl H)⟩ (Wk.regs (by simp)) fun s hs => ?_
  obtain ⟨n, K⟩ := s
  obtain ⟨hn, c1, c2, c3, hg, hk⟩ := hs
  simp only at hn hk hg c1 c2 c3
  have step : ∀ e : PE, e = .none ∨ ∃ T v, encErr e = .iface T v := fun e => by
    by_cases he : e = .none
    · exact .inl he
    · exact .inr (encErr_iface he)
  refine aC_sound (lv := []) _ _ _ _ ?_
  simp [hS.P]
  have w1 : IntKind.i64.wrap 1 = 1 := by decide
  have w2 : IntKind.i64.wrap 2 = 2 := by decide
  have w3 : IntKind.i64.wrap 3 = 3 := by decide
  have hcases : n = 0 ∨ n = 1 ∨ n = 2 ∨ n = 3 := by omega
  rcases hcases with rfl | rfl | rfl | rfl
  · simp [hS.P, hg]
    refine (checkPages_spec hS p l1).go ?_
    rcases step (pagesE p) with he | ⟨T, v, he⟩
    · simp [hS.P, he, encErr]
      exact ⟨1, K, (show ckInv p H (1, K) from ⟨by simp, fun _ => he, by simp, by simp, hg, hk⟩), by omega, Wk.regs (by simp [w1])⟩
    · have hx : planE p = pagesE p := by
        simp only [planE, hidE, PE.or]
        cases hE : pagesE p with
        | none => rw [hE] at he; simp [encErr] at he
        | _ => rfl
      simp [hS.P, he]
      rw [← he]
      exact fin hk _ hx.symm
  · simp [hS.P, hg]
    refine (checkProcs_spec hS p l2 l1).go ?_
    have hp0 := c1 rfl
    rcases step (procsE p) with he | ⟨T, v, he⟩
    · simp [hS.P, he, encErr]
      exact ⟨2, K, (show ckInv p H (2, K) from ⟨by simp, by simp, fun _ => ⟨hp0, he⟩, by simp, hg, hk⟩), by omega, Wk.regs (by simp [w2])⟩
    · have hx : planE p = procsE p := by
        simp only [planE, hidE, hp0, PE.or]
        cases hE : procsE p with
        | none => rw [hE] at he; simp [encErr] at he
        | _ => rfl
      simp [hS.P, he]
      rw [← he]
      exact fin hk _ hx.symm
  · simp [hS.P, hg]
    refine (checkRest_spec hS p hp).go ?_
    obtain ⟨hp0, hp1⟩ := c2 rfl
    have hx : planE p = restE p := by simp only [planE, hidE, hp0, hp1, PE.or]
    rcases step (restE p) with he | ⟨T, v, he⟩
    · simp [hS.P, he, encErr]
      exact ⟨3, K, (show ckInv p H (3, K) from ⟨by simp, by simp, by simp, fun _ => by rw [hx, he], hg, hk⟩), by omega, Wk.regs (by simp [w3])⟩
    · simp [hS.P, he]
      rw [← he]
      exact fin hk _ hx.symm
  · simp
    exact fin hk .none (c3 rfl).symm
theorem or_ok {a b : PE} (ha : a.Ok) (hb : b.Ok) : (a.or b).Ok := by
  cases a <;> simp only [PE.or]
  · exact hb
  · exact ha
  · exact ha
theorem firstBad_ok {A : Type} {f : A → Nat} (hf : ∀ a, f a ≤ 20) : ∀ (l : List A) (i : Nat), (firstBad f l i).Ok
  | [], _ => trivial
  | a :: l, i => by
    unfold firstBad; split
    · exact firstBad_ok hf l _
    · have := hf a
      exact ⟨by omega, this⟩
theorem planE_ok (p : PlanD) : (planE p).Ok := by
  have h1 : (idE p).Ok := by unfold idE; split <;> simp [PE.Ok]
  have h2 : (pagesE p).Ok := by
    unfold pagesE; split
    · simp [PE.Ok]
    · exact firstBad_ok (fun a => by unfold PageD.bad; split <;> (try split) <;> omega) _ _
  have h3 : (procsE p).Ok := by
    unfold procsE; split
    · simp [PE.Ok]
    · exact firstBad_ok (fun a => by unfold ProcD.bad; split <;> omega) _ _
  have h4 : (portsE p).Ok := by
    unfold portsE; split
    · simp [PE.Ok]
    · exact firstBad_ok (fun a => by rcases a.err_cases with ⟨h, _⟩ | ⟨_, _, h⟩ <;> omega) _ _
  have h5 : (semsE p).Ok := by
    unfold semsE; split
    · simp [PE.Ok]
    · split
      · simp [PE.Ok]
      · exact firstBad_ok (fun a => by unfold semBad; split <;> omega) _ _
  have h6 : (boundE p).Ok := by unfold boundE; split <;> simp [PE.Ok]
  exact or_ok h1 (or_ok h2 (or_ok h3 (or_ok h4 (or_ok h5 h6))))
end Go.Proofs.YtndoembhbfiokaaGreatDoor.Am
set_option linter.unusedVariables false
set_option linter.unusedSimpArgs false
namespace Go.Proofs.YtndoembhbfiokaaGreatDoor.Am
open Go.RowKit Go.Proofs

theorem none10_spec {X : Ctx} (hS : Sent X) : ACalc X 70 [] (encR 0 (-1)) := by
  intro H
  refine acalls' (N := 2) (rs := [.cell 0 84]) [] (by rw [hS.P]; exact Tryz.func70) rfl rfl rfl (by decide) (by simp) ?_
  simp [entryR, hS.P]
  exact Leave.data (put_keeps (by simp) (keeps_refl H)) (by simp) (by simp [encR])
theorem bad10_spec {X : Ctx} (hS : Sent X) (c : Int) : ACalc X 64 [.int .i64 c] (encR c (-1)) := by
  intro H
  refine acalls' (N := 5) (rs := [.cell 2 84]) [] (by rw [hS.P]; exact Tryz.func64) rfl rfl rfl (by decide) (by simp) ?_
  simp [entryR, hS.P]
  exact Leave.data (put_keeps (by simp) (keeps_refl H)) (by simp) (by simp [encR])
@[simp] theorem encPR_good (e : PE) : (encPR e).good = true := rfl
@[simp] theorem encPR_cells (e : PE) : (encPR e).cells = [.int .i64 e.code, .int .i64 e.place] := rfl
theorem encPR_at (i : Int) (c : Nat) (hc : c ≠ 0) : encPR (.at i c) = encR c i := by simp [encPR, PE.code, PE.place, codeG, hc]
theorem encPR_bare (c : Nat) : encPR (.bare c) = encR c (-1) := by simp [encPR, PE.code, PE.place, codeG]
theorem encPR_none : encPR .none = encR 0 (-1) := by simp [encPR, PE.code, PE.place]

theorem rpages_spec {X : Ctx} (hS : Sent X) (p : PlanD) (hl : p.pages.length ≤ 1073741824) : ACalc X 65 [encPlan p] (encPR (pagesE p)) := by
  intro H
  refine acalls' (N := 51) (rs := [.cell 2 84]) [] (by rw [hS.P]; exact Tryz.func65) rfl rfl rfl (by decide) (by simp) ?_
  have f1 : H.get (H.nx + 1) = .free := AH.free_add H 1
  have hk0 : ∀ i, H.get i ≠ .free → ((H.put H.nx (.row [encPlan p] 7 0)).put (H.nx + 1) (.row [encR 0 0] 2 0)).get i = H.get i := put_keeps f1 (put_keeps (by simp) (keeps_refl H))
  have fin : ∀ {K : AH} {v : AV}, (∀ i, H.get i ≠ .free → K.get i = H.get i) → ∀ c q : Int, v = encR c q → encR c q = encPR (pagesE p) → Leave X H v K fun v' H' => v' = encPR (pagesE p) ∧ H' = H := fun hk c q hv he => by
    subst hv; exact Leave.data hk (by simp) ⟨he, rfl⟩
  have e11 : p.pages.length < 1 ∨ 32 < p.pages.length → encR 11 (-1) = encPR (pagesE p) := fun h => by simp only [pagesE, if_pos h]; rw [encPR_bare]; rfl
  simp [entryR, hS.P]
  refine aGuard_decf (fun h1 => ?_) (fun h1 => ?_)
  · simp [h1, hS.P]
    refine (bad10_spec hS 11).go ?_
    simp [hS.P]
    exact fin (put_keeps f1 (put_keeps (by simp) (keeps_refl H))) _ _ rfl (e11 (by omega))
  simp [h1, hS.P]
  refine aCond_mk (fun h2 => ?_) (fun h2 => ?_)
  · simp at h2
    simp [hS.P]
    refine (bad10_spec hS 11).go ?_
    simp [hS.P]
    exact fin (put_keeps f1 (put_keeps (by simp) (keeps_refl H))) _ _ rfl (e11 (by omega))
  simp at h2
  have hp : pagesE p = firstBad PageD.bad p.pages 0 := by simp only [pagesE]; rw [if_neg (by omega)]
  simp [hS.P]
  generalize hK : (AH.put _ (H.nx + 1) _) = K
  have g1 : K.get H.nx = .row [encPlan p] 7 0 := by rw [← hK]; simp
  have g2 : K.get (H.nx + 1) = .row [.agg [.int .i64 0, .int .i64 0]] 2 0 := by rw [← hK]; simp
  have hk : ∀ i, H.get i ≠ .free → K.get i = H.get i := by rw [← hK]; exact put_keeps f1 (put_keeps (by simp) (keeps_refl H))
  refine AWp.loop (S := Nat) (fun n => n ≤ p.pages.length ∧ firstBad PageD.bad (p.pages.drop n) n = pagesE p)
    (fun n => [(1, .ptr H.nx 0 0 0), (2, .ptr (H.nx + 1) 0 0 0), (3, .int .i64 n)]) (fun _ => K) (fun n => p.pages.length - n) 0 ⟨Nat.zero_le _, by simp [hp]⟩ (Wk.regs (by simp)) fun n hs => ?_
  obtain ⟨hn, hF⟩ := hs
  refine aC_sound (lv := []) _ _ _ _ ?_
  simp [hS.P, g1]
  refine aCond_dec (fun hlt => ?_) (fun hge => ?_)
  · obtain ⟨x, hx⟩ : ∃ x, p.pages[n]? = some x := ⟨p.pages[n], List.getElem?_eq_getElem hlt⟩
    rw [firstBad_drop hx] at hF
    have bad : x.bad ≠ 0 → encR x.bad n = encPR (pagesE p) := fun h => by rw [if_neg h] at hF; rw [← hF, encPR_at _ _ h]
    simp [hS.P, g1, hx]
    refine aGuard_decf (fun h3 => ?_) (fun h3 => ?_)
    · have hb : x.bad = 4 := by simp [PageD.bad, h3]
      simp [h3, hS.P, g2]
      exact fin (put_keeps f1 hk) 4 n rfl (by rw [← bad (by omega), hb]; rfl)
    simp [h3, hS.P, g1, hx]
    refine aCond_dec (fun h4 => ?_) (fun h4 => ?_)
    · have hb : x.bad = 4 := by simp [PageD.bad, h4]
      simp [hS.P, g2]
      exact fin (put_keeps f1 hk) 4 n rfl (by rw [← bad (by omega), hb]; rfl)
    simp [hS.P, g1, hx]
    refine aCond_mk (fun h5 => ?_) (fun h5 => ?_)
    · simp at h5
      have hb : x.bad = 5 := by simp [PageD.bad, h3, h4]; omega
      simp [hS.P, g2]
      exact fin (put_keeps f1 hk) 5 n rfl (by rw [← bad (by omega), hb]; rfl)
    simp at h5
    have hb : x.bad = 0 := by simp [PageD.bad, h3, h4]; omega
    rw [hb, if_pos rfl] at hF
    simp
    exact ⟨n + 1, ⟨hlt, hF⟩, by omega, Wk.regs (by simp [wrap1 (n := n) (by omega)])⟩
  · obtain rfl : n = p.pages.length := by omega
    simp at hF
    simp
    refine (none10_spec hS).go ?_
    simp [hS.P, g2]
    exact fin (put_keeps f1 hk) 0 (-1) rfl (by rw [← hF]; exact encPR_none.symm)
end Go.Proofs.YtndoembhbfiokaaGreatDoor.Am
set_option linter.unusedVariables false
set_option linter.unusedSimpArgs false
namespace Go.Proofs.YtndoembhbfiokaaGreatDoor.Am
open Go.RowKit Go.Proofs

theorem rports_spec {X : Ctx} (hS : Sent X) (p : PlanD) (hl : p.ports.length ≤ 1073741824) : ACalc X 67 [encPlan p] (encPR (portsE p)) := by
  intro H
  refine acalls' (N := 29) (rs := [.cell 2 84]) [] (by rw [hS.P]; exact Tryz.func67) rfl rfl rfl (by decide) (by simp) ?_
  have f1 : H.get (H.nx + 1) = .free := AH.free_add H 1
  have fin : ∀ {K : AH} {v : AV}, (∀ i, H.get i ≠ .free → K.get i = H.get i) → ∀ c q : Int, v = encR c q → encR c q = encPR (portsE p) → Leave X H v K fun v' H' => v' = encPR (portsE p) ∧ H' = H := fun hk c q hv he => by
    subst hv; exact Leave.data hk (by simp) ⟨he, rfl⟩
  have e11 : 8 < p.ports.length → encR 11 (-1) = encPR (portsE p) := fun h => by simp only [portsE, if_pos h]; rw [encPR_bare]; rfl
  simp [entryR, hS.P]
  refine aCond_mk (fun h2 => ?_) (fun h2 => ?_)
  · simp at h2
    simp [hS.P]
    refine (bad10_spec hS 11).go ?_
    simp [hS.P]
    exact fin (put_keeps f1 (put_keeps (by simp) (keeps_refl H))) _ _ rfl (e11 (by omega))
  simp at h2
  have hp : portsE p = firstBad PortD.bad p.ports 0 := by simp only [portsE]; rw [if_neg (by omega)]
  simp [hS.P]
  generalize hK : (AH.put _ (H.nx + 1) _) = K
  have g1 : K.get H.nx = .row [encPlan p] 7 0 := by rw [← hK]; simp
  have g2 : K.get (H.nx + 1) = .row [.agg [.int .i64 0, .int .i64 0]] 2 0 := by rw [← hK]; simp
  have hk : ∀ i, H.get i ≠ .free → K.get i = H.get i := by rw [← hK]; exact put_keeps f1 (put_keeps (by simp) (keeps_refl H))
  refine AWp.loop (S := Nat) (fun n => n ≤ p.ports.length ∧ firstBad PortD.bad (p.ports.drop n) n = portsE p)
    (fun n => [(1, .ptr H.nx 0 0 0), (2, .ptr (H.nx + 1) 0 0 0), (3, .int .i64 n)]) (fun _ => K) (fun n => p.ports.length - n) 0 ⟨Nat.zero_le _, by simp [hp]⟩ (Wk.regs (by simp)) fun n hs => ?_
  obtain ⟨hn, hF⟩ := hs
  refine aC_sound (lv := []) _ _ _ _ ?_
  simp [hS.P, g1]
  refine aCond_dec (fun hlt => ?_) (fun hge => ?_)
  · obtain ⟨x, hx⟩ : ∃ x, p.ports[n]? = some x := ⟨p.ports[n], List.getElem?_eq_getElem hlt⟩
    rw [firstBad_drop hx] at hF
    simp [hS.P, g1, hx]
    refine (rportCheck_spec hS x).go ?_
    rcases x.err_cases with ⟨hb, he⟩ | ⟨he, hb1, hb2⟩
    · rw [hb, if_pos rfl] at hF
      simp [hS.P, he, PE.code]
      exact ⟨n + 1, ⟨hlt, hF⟩, by omega, Wk.regs (by simp [wrap1 (n := n) (by omega)])⟩
    · rw [if_neg (by omega)] at hF
      have hb0 : ¬ x.bad = 0 := by omega
      simp [hS.P, he, PE.code, codeG, hb0, g2]
      exact fin (put_keeps f1 hk) x.bad n rfl (by rw [← hF, encPR_at _ _ (by omega)])
  · obtain rfl : n = p.ports.length := by omega
    simp at hF
    simp
    refine (none10_spec hS).go ?_
    simp [hS.P, g2]
    exact fin (put_keeps f1 hk) 0 (-1) rfl (by rw [← hF]; exact encPR_none.symm)
theorem rthings_spec {X : Ctx} (hS : Sent X) (p : PlanD) (hl : p.sems.length ≤ 1073741824) : ACalc X 68 [encPlan p] (encPR (semsE p)) := by
  intro H
  refine acalls' (N := 42) (rs := [.cell 2 84]) [] (by rw [hS.P]; exact Tryz.func68) rfl rfl rfl (by decide) (by simp) ?_
  have f1 : H.get (H.nx + 1) = .free := AH.free_add H 1
  have fin : ∀ {K : AH} {v : AV}, (∀ i, H.get i ≠ .free → K.get i = H.get i) → ∀ c q : Int, v = encR c q → encR c q = encPR (semsE p) → Leave X H v K fun v' H' => v' = encPR (semsE p) ∧ H' = H := fun hk c q hv he => by
    subst hv; exact Leave.data hk (by simp) ⟨he, rfl⟩
  have e4 : p.events < 0 ∨ 8 < p.events → encR 4 (-1) = encPR (semsE p) := fun h => by simp only [semsE, if_pos h]; rw [encPR_bare]; rfl
  have e11 : ¬ (p.events < 0 ∨ 8 < p.events) → 8 < p.sems.length → encR 11 (-1) = encPR (semsE p) := fun h h' => by simp only [semsE, if_neg h, if_pos h']; rw [encPR_bare]; rfl
  simp [entryR, hS.P]
  refine aGuard_decf (fun h0 => ?_) (fun h0 => ?_)
  · simp [h0, hS.P]
    refine (bad10_spec hS 4).go ?_
    simp [hS.P]
    exact fin (put_keeps f1 (put_keeps (by simp) (keeps_refl H))) _ _ rfl (e4 (.inl h0))
  simp [h0, hS.P]
  refine aCond_dec (fun h1 => ?_) (fun h1 => ?_)
  · simp [h1, hS.P]
    refine (bad10_spec hS 4).go ?_
    simp [hS.P]
    exact fin (put_keeps f1 (put_keeps (by simp) (keeps_refl H))) _ _ rfl (e4 (.inr h1))
  simp [hS.P]
  refine aCond_mk (fun h2 => ?_) (fun h2 => ?_)
  · simp at h2
    simp [hS.P]
    refine (bad10_spec hS 11).go ?_
    simp [hS.P]
    exact fin (put_keeps f1 (put_keeps (by simp) (keeps_refl H))) _ _ rfl (e11 (by omega) (by omega))
  simp at h2
  have hp : semsE p = firstBad semBad p.sems 0 := by simp only [semsE]; rw [if_neg (by omega), if_neg (by omega)]
  simp [hS.P]
  generalize hK : (AH.put _ (H.nx + 1) _) = K
  have g1 : K.get H.nx = .row [encPlan p] 7 0 := by rw [← hK]; simp
  have g2 : K.get (H.nx + 1) = .row [.agg [.int .i64 0, .int .i64 0]] 2 0 := by rw [← hK]; simp
  have hk : ∀ i, H.get i ≠ .free → K.get i = H.get i := by rw [← hK]; exact put_keeps f1 (put_keeps (by simp) (keeps_refl H))
  refine AWp.loop (S := Nat) (fun n => n ≤ p.sems.length ∧ firstBad semBad (p.sems.drop n) n = semsE p)
    (fun n => [(1, .ptr H.nx 0 0 0), (2, .ptr (H.nx + 1) 0 0 0), (3, .int .i64 n)]) (fun _ => K) (fun n => p.sems.length - n) 0 ⟨Nat.zero_le _, by simp [hp]⟩ (Wk.regs (by simp)) fun n hs => ?_
  obtain ⟨hn, hF⟩ := hs
  refine aC_sound (lv := []) _ _ _ _ ?_
  simp [hS.P, g1]
  refine aCond_dec (fun hlt => ?_) (fun hge => ?_)
  · obtain ⟨x, hx⟩ : ∃ x, p.sems[n]? = some x := ⟨p.sems[n], List.getElem?_eq_getElem hlt⟩
    rw [firstBad_drop hx] at hF
    have bad : semBad x = 4 → encR 4 n = encPR (semsE p) := fun h => by rw [h, if_neg (by omega)] at hF; rw [← hF, encPR_at _ _ (by omega)]; rfl
    simp [hS.P, g1, hx, encInt]
    refine aGuard_decf (fun h3 => ?_) (fun h3 => ?_)
    · simp [h3, hS.P, g2]
      exact fin (put_keeps f1 hk) 4 n rfl (bad (by simp [semBad, h3]))
    simp [h3, hS.P, g1, hx, encInt]
    refine aCond_dec (fun h4 => ?_) (fun h4 => ?_)
    · simp [hS.P, g2]
      exact fin (put_keeps f1 hk) 4 n rfl (bad (by simp [semBad, h4]))
    have hb : semBad x = 0 := by simp only [semBad]; rw [if_neg (by omega)]
    rw [hb, if_pos rfl] at hF
    simp
    exact ⟨n + 1, ⟨hlt, hF⟩, by omega, Wk.regs (by simp [wrap1 (n := n) (by omega)])⟩
  · obtain rfl : n = p.sems.length := by omega
    simp at hF
    simp
    refine (none10_spec hS).go ?_
    simp [hS.P, g2]
    exact fin (put_keeps f1 hk) 0 (-1) rfl (by rw [← hF]; exact encPR_none.symm)
end Go.Proofs.YtndoembhbfiokaaGreatDoor.Am
set_option linter.unusedVariables false
set_option linter.unusedSimpArgs false
namespace Go.Proofs.YtndoembhbfiokaaGreatDoor.Am
open Go.RowKit Go.Proofs

theorem rprocs_spec {X : Ctx} (hS : Sent X) (p : PlanD) (hl : p.procs.length ≤ 1073741824) (hl2 : p.pages.length ≤ 1073741824) : ACalc X 66 [encPlan p] (encPR (procsE p)) := by
  intro H
  refine acalls' (N := 59) (rs := [.cell 2 84]) [] (by rw [hS.P]; exact Tryz.func66) rfl rfl rfl (by decide) (by simp) ?_
  have f1 : H.get (H.nx + 1) = .free := AH.free_add H 1
  have fin : ∀ {K : AH} {v : AV}, (∀ i, H.get i ≠ .free → K.get i = H.get i) → ∀ c q : Int, v = encR c q → encR c q = encPR (procsE p) → Leave X H v K fun v' H' => v' = encPR (procsE p) ∧ H' = H := fun hk c q hv he => by
    subst hv; exact Leave.data hk (by simp) ⟨he, rfl⟩
  have e11 : p.procs.length < 1 ∨ 8 < p.procs.length → encR 11 (-1) = encPR (procsE p) := fun h => by simp only [procsE, if_pos h]; rw [encPR_bare]; rfl
  simp [entryR, hS.P]
  refine aGuard_decf (fun h1 => ?_) (fun h1 => ?_)
  · simp [h1, hS.P]
    refine (bad10_spec hS 11).go ?_
    simp [hS.P]
    exact fin (put_keeps f1 (put_keeps (by simp) (keeps_refl H))) _ _ rfl (e11 (by omega))
  simp [h1, hS.P]
  refine aCond_mk (fun h2 => ?_) (fun h2 => ?_)
  · simp at h2
    simp [hS.P]
    refine (bad10_spec hS 11).go ?_
    simp [hS.P]
    exact fin (put_keeps f1 (put_keeps (by simp) (keeps_refl H))) _ _ rfl (e11 (by omega))
  simp at h2
  have hp : procsE p = firstBad (ProcD.bad p.pages.length) p.procs 0 := by simp only [procsE]; rw [if_neg (by omega)]
  simp [hS.P]
  refine AWp.loop (S := Nat × AH) (fun s => s.1 ≤ p.procs.length ∧ firstBad (ProcD.bad p.pages.length) (p.procs.drop s.1) s.1 = procsE p ∧ s.2.get H.nx = .row [encPlan p] 7 0 ∧ s.2.get (H.nx + 1) = .row [.agg [.int .i64 0, .int .i64 0]] 2 0 ∧ ∀ i, H.get i ≠ .free → s.2.get i = H.get i)
    (fun s => [(1, .ptr H.nx 0 0 0), (2, .ptr (H.nx + 1) 0 0 0), (3, .int .i64 s.1)]) (fun s => s.2) (fun s => p.procs.length - s.1) (0, _) ⟨Nat.zero_le _, by simp [hp], by simp, by simp, put_keeps f1 (put_keeps (by simp) (keeps_refl H))⟩ (Wk.regs (by simp)) fun s hs => ?_
  obtain ⟨n, K⟩ := s
  obtain ⟨hn, hF, g1, g2, hk⟩ := hs
  simp only at hn hF g1 g2 hk
  have hlen : IntKind.i64.wrap (64 * (p.pages.length : Int)) = 64 * (p.pages.length : Int) := wrap64 (by omega) (by omega)
  have n1 : ¬ H.nx = K.nx := fun h => by have := AH.lt_nx (AH.ne_free g1); omega
  have n2 : ¬ H.nx + 1 = K.nx := fun h => by have := AH.lt_nx (AH.ne_free g2); omega
  refine aC_sound (lv := []) _ _ _ _ ?_
  simp [hS.P, g1]
  refine aCond_dec (fun hlt => ?_) (fun hge => ?_)
  · obtain ⟨x, hx⟩ : ∃ x, p.procs[n]? = some x := ⟨p.procs[n], List.getElem?_eq_getElem hlt⟩
    rw [firstBad_drop hx] at hF
    have bad : (x.entry < 0 ∨ 64 * (p.pages.length : Int) ≤ x.entry ∨ x.entry.tmod 4 ≠ 0 ∨ x.prio < 0 ∨ 255 < x.prio) → encR 4 n = encPR (procsE p) := fun h => by
      have hb : x.bad p.pages.length = 4 := by simp only [ProcD.bad, if_pos h]
      rw [hb, if_neg (by omega)] at hF; rw [← hF, encPR_at _ _ (by omega)]; rfl
    have hk2 : ∀ (t : Slot) (t2 : Slot), ∀ i, H.get i ≠ .free → ((K.put K.nx t).put (H.nx + 1) t2).get i = H.get i := fun t t2 => put_keeps f1 (put_keeps (keepsNx hk) hk)
    simp [hS.P, g1, hx]
    refine aGuard_decf (fun h3 => ?_) (fun h3 => ?_)
    · simp [h3, hS.P, g2, n2]
      exact fin (hk2 _ _) 4 n rfl (bad (.inl h3))
    simp [h3, hS.P, g1, n1]
    by_cases h5 : x.entry.tmod 4 = 0
    · simp [h5, hS.P, g1, n1, hlen]
      refine aGuard_decf (fun h4 => ?_) (fun h4 => ?_)
      · simp [h4, hS.P, g2, n2]
        exact fin (hk2 _ _) 4 n rfl (bad (.inr (.inl h4)))
      simp [h4, hS.P]
      refine aGuard_decf (fun h6 => ?_) (fun h6 => ?_)
      · simp [h6, hS.P, g2, n2]
        exact fin (hk2 _ _) 4 n rfl (bad (.inr (.inr (.inr (.inl h6)))))
      simp [h6, hS.P]
      refine aCond_dec (fun h7 => ?_) (fun h7 => ?_)
      · simp [hS.P, g2, n2]
        exact fin (hk2 _ _) 4 n rfl (bad (.inr (.inr (.inr (.inr h7)))))
      · simp
        have hb : x.bad p.pages.length = 0 := by simp only [ProcD.bad]; rw [if_neg (by omega)]
        rw [hb, if_pos rfl] at hF
        exact ⟨n + 1, _, ⟨hlt, hF, by simp [n1, g1], by simp [n2, g2], put_keeps (keepsNx hk) hk⟩, by omega, Wk.regs (by simp [wrap1 (n := n) (by omega)])⟩
    · simp [h5, hS.P, g2, n2]
      exact fin (hk2 _ _) 4 n rfl (bad (.inr (.inr (.inl h5))))
  · obtain rfl : n = p.procs.length := by omega
    simp at hF
    simp
    refine (none10_spec hS).go ?_
    simp [hS.P, g2]
    exact fin (put_keeps f1 hk) 0 (-1) rfl (by rw [← hF]; exact encPR_none.symm)
theorem depth_one (p : PortD) (h : p.err = .none) (hk : p.kind = 1) : p.depth = 1 := by
  unfold PortD.err at h
  by_cases h1 : p.kind < 1 ∨ 4 < p.kind
  · simp [h1] at h
  · by_cases h2 : p.size < 1 ∨ 32 < p.size
    · simp [h1, h2] at h
    · rw [if_neg h1, if_neg h2] at h
      by_cases h3 : p.depth < 1 ∨ (if 3 ≤ p.kind then 8 else 1) < p.depth ∨ p.refresh < 0 ∨ (if p.kind = 1 then 255 else 0) < p.refresh
      · rw [if_pos h3] at h; cases h
      · rw [hk] at h3; simp at h3; omega
theorem rmost_eq (p : PortD) (h : p.err = .none) : (if p.kind = 1 then 3 + p.size else p.most) = p.most := by
  split
  · rename_i hk
    have := depth_one p h hk
    simp [PortD.most, h, hk, this]
    omega
  · rfl
theorem firstBad_none {A : Type} {f : A → Nat} : ∀ {l : List A} {i : Nat}, firstBad f l i = .none → ∀ a ∈ l, f a = 0
  | [], _, _, a, h => by simp at h
  | b :: l, i, h, a, ha => by
    unfold firstBad at h
    split at h
    · rename_i hb
      rcases List.mem_cons.1 ha with rfl | ha
      · exact hb
      · exact firstBad_none h a ha
    · cases h
theorem portsE_none {p : PlanD} (h : portsE p = .none) : ∀ x ∈ p.ports, x.err = .none := fun x hx => by
  unfold portsE at h
  split at h
  · cases h
  · rcases x.err_cases with ⟨_, h'⟩ | ⟨_, h1, _⟩
    · exact h'
    · have := firstBad_none h x hx; omega
end Go.Proofs.YtndoembhbfiokaaGreatDoor.Am
set_option linter.unusedVariables false
set_option linter.unusedSimpArgs false
namespace Go.Proofs.YtndoembhbfiokaaGreatDoor.Am
open Go.RowKit Go.Proofs

theorem rbound_spec {X : Ctx} (hS : Sent X) (p : PlanD) (hp : p.Small) (hq : ∀ x ∈ p.ports, x.err = .none) (he : -1099511627776 ≤ p.events ∧ p.events ≤ 1099511627776) : ACalc X 69 [encPlan p] (.int .i64 (boundI p)) := by
  intro H
  refine acalls' (N := 45) (rs := [.tmp 2]) [] (by rw [hS.P]; exact Tryz.func69) rfl rfl rfl (by decide) (by simp) ?_
  obtain ⟨l1, l2, l3, l4⟩ := hp
  have w1 : IntKind.i64.wrap (76 * (p.procs.length : Int)) = 76 * (p.procs.length : Int) := wrap64 (by omega) (by omega)
  have w2 : IntKind.i64.wrap (58 + 76 * (p.procs.length : Int)) = 58 + 76 * (p.procs.length : Int) := wrap64 (by omega) (by omega)
  have w3 : IntKind.i64.wrap (68 * (p.pages.length : Int)) = 68 * (p.pages.length : Int) := wrap64 (by omega) (by omega)
  have w4 : IntKind.i64.wrap (58 + 76 * (p.procs.length : Int) + 68 * (p.pages.length : Int)) = 58 + 76 * (p.procs.length : Int) + 68 * (p.pages.length : Int) := wrap64 (by omega) (by omega)
  have w5 : IntKind.i64.wrap (58 + 76 * (p.procs.length : Int) + 68 * (p.pages.length : Int) + p.events) = 58 + 76 * (p.procs.length : Int) + 68 * (p.pages.length : Int) + p.events := wrap64 (by omega) (by omega)
  have w6 : IntKind.i64.wrap (58 + 76 * (p.procs.length : Int) + 68 * (p.pages.length : Int) + p.events + p.sems.length) = 58 + 76 * (p.procs.length : Int) + 68 * (p.pages.length : Int) + p.events + p.sems.length := wrap64 (by omega) (by omega)
  simp [entryR, hS.P, w1, w2, w3, w4, w5, w6]
  generalize hB : 58 + 76 * (p.procs.length : Int) + 68 * (p.pages.length : Int) + p.events + p.sems.length = B
  have hBb : -1099511627776 ≤ B ∧ B ≤ 3298534883328 := by omega
  refine AWp.loop (S := Nat) (fun n => n ≤ p.ports.length)
    (fun n => [(1, .ptr H.nx 0 0 0), (3, .int .i64 (B + portSum (p.ports.take n))), (4, .int .i64 n)]) (fun _ => H.put H.nx (.row [encPlan p] 7 0)) (fun n => p.ports.length - n) 0 (Nat.zero_le _) (Wk.regs (by simp [portSum])) fun n hn => ?_
  refine aC_sound (lv := []) _ _ _ _ ?_
  simp [hS.P]
  refine aCond_dec (fun hlt => ?_) (fun hge => ?_)
  · obtain ⟨x, hx⟩ : ∃ x, p.ports[n]? = some x := ⟨p.ports[n], List.getElem?_eq_getElem hlt⟩
    have hxe := hq x (List.mem_of_getElem? hx)
    have b1 := x.most_le
    have b2 := portSum_le (p.ports.take n)
    have b3 : (p.ports.take n).length ≤ n := by simp; omega
    have v1 : IntKind.i64.wrap (3 + x.most) = 3 + x.most := wrap64 (by omega) (by omega)
    have v2 : IntKind.i64.wrap (B + portSum (p.ports.take n) + (3 + x.most)) = B + portSum (p.ports.take (n + 1)) := by
      rw [portSum_take hx, wrap64 (by omega) (by omega)]; omega
    simp [hS.P, hx]
    refine (rmost_spec hS x hxe).go ?_
    rw [rmost_eq x hxe]
    simp [hS.P, v1, v2]
    exact ⟨n + 1, hlt, by omega, Wk.regs (by simp [wrap1 (n := n) (by omega)])⟩
  · obtain rfl : n = p.ports.length := by omega
    simp
    exact Leave.data (put_keeps (by simp) (keeps_refl H)) (by simp) ⟨by simp [boundI, ← hB], rfl⟩
def code0 (e : PE) : Prop := e.code = 0
theorem code_none {e : PE} (h : e.Ok) : e.code = 0 ↔ e = .none := by
  cases e with
  | none => simp [PE.code]
  | bare c => simp [PE.code, codeG]; intro hc; simp [PE.Ok] at h; omega
  | «at» q c => simp [PE.code, codeG]; intro hc; simp [PE.Ok] at h; omega
theorem pagesE_ok (p : PlanD) : (pagesE p).Ok := by
  unfold pagesE; split
  · simp [PE.Ok]
  · exact firstBad_ok (fun a => by unfold PageD.bad; split <;> (try split) <;> omega) _ _
theorem procsE_ok (p : PlanD) : (procsE p).Ok := by
  unfold procsE; split
  · simp [PE.Ok]
  · exact firstBad_ok (fun a => by unfold ProcD.bad; split <;> omega) _ _
theorem portsE_ok (p : PlanD) : (portsE p).Ok := by
  unfold portsE; split
  · simp [PE.Ok]
  · exact firstBad_ok (fun a => by rcases a.err_cases with ⟨h, _⟩ | ⟨_, _, h⟩ <;> omega) _ _
theorem semsE_ok (p : PlanD) : (semsE p).Ok := by
  unfold semsE; split
  · simp [PE.Ok]
  · split
    · simp [PE.Ok]
    · exact firstBad_ok (fun a => by unfold semBad; split <;> omega) _ _
theorem semsE_events {p : PlanD} (h : semsE p = .none) : 0 ≤ p.events ∧ p.events ≤ 8 := by
  unfold semsE at h
  split at h
  · cases h
  · omega
def rck (p : PlanD) (n : Nat) : Prop :=
  n ≤ 4 ∧ (1 ≤ n → pagesE p = .none) ∧ (2 ≤ n → procsE p = .none) ∧ (3 ≤ n → portsE p = .none) ∧ (4 ≤ n → semsE p = .none)
theorem rplanCheck_spec {X : Ctx} (hS : Sent X) (p : PlanD) (hp : p.Small) : ACalc X 26 [encPlan p] (encPR (planE p)) := by
  intro H
  refine acalls' (N := 44) (rs := [.cell 2 84]) [] (by rw [hS.P]; exact Tryz.func26) rfl rfl rfl (by decide) (by simp) ?_
  obtain ⟨l1, l2, l3, l4⟩ := id hp
  have f1 : H.get (H.nx + 1) = .free := AH.free_add H 1
  have fin : ∀ {K : AH} {v : AV}, (∀ i, H.get i ≠ .free → K.get i = H.get i) → ∀ c q : Int, v = encR c q → encR c q = encPR (planE p) → Leave X H v K fun v' H' => v' = encPR (planE p) ∧ H' = H := fun hk c q hv he => by
    subst hv; exact Leave.data hk (by simp) ⟨he, rfl⟩
  have e4 : p.id < 0 ∨ 2147483647 < p.id → encR 4 (-1) = encPR (planE p) := fun h => by simp only [planE, idE, if_pos h, PE.or]; rw [encPR_bare]; rfl
  simp [entryR, hS.P]
  refine aGuard_decf (fun h1 => ?_) (fun h1 => ?_)
  · simp [h1, hS.P]
    refine (bad10_spec hS 4).go ?_
    simp [hS.P]
    exact fin (put_keeps f1 (put_keeps (by simp) (keeps_refl H))) _ _ rfl (e4 (.inl h1))
  simp [h1, hS.P]
  refine aCond_dec (fun h2 => ?_) (fun h2 => ?_)
  · simp [hS.P]
    refine (bad10_spec hS 4).go ?_
    simp [hS.P]
    exact fin (put_keeps f1 (put_keeps (by simp) (keeps_refl H))) _ _ rfl (e4 (.inr h2))
  have hidE : idE p = .none := by simp [idE, h1, h2]
  simp [hS.P]
  rw [aC_draw (hc := by kernel_rfl)]
  simp [hS.P]
  refine (rpages_spec hS p l1).call ?_
  simp [hS.P]
  refine (rprocs_spec hS p l2 l1).call ?_
  simp [hS.P]
  refine (rports_spec hS p l3).call ?_
  simp [hS.P]
  refine (rthings_spec hS p l4).call ?_
  simp [hS.P]
  refine aIf_mk (chkH_reads (by simp)) ?_
  simp [hS.P]
  generalize hK : (AH.put _ (H.nx + 1) _) = K
  have g1 : K.get H.nx = .row [encPlan p] 7 0 := by rw [← hK]; simp
  have g2 : K.get (H.nx + 1) = .row [.agg [.int .i64 0, .int .i64 0]] 2 0 := by rw [← hK]; simp
  have hk : ∀ i, H.get i ≠ .free → K.get i = H.get i := by rw [← hK]; exact put_keeps f1 (put_keeps (by simp) (keeps_refl H))
  have w1 : IntKind.i64.wrap 1 = 1 := by decide
  have w2 : IntKind.i64.wrap 2 = 2 := by decide
  have w3 : IntKind.i64.wrap 3 = 3 := by decide
  have w4 : IntKind.i64.wrap 4 = 4 := by decide
  refine AWp.loop (S := Nat) (rck p)
    (fun n => [(1, .ptr H.nx 0 0 0), (2, .ptr (H.nx + 1) 0 0 0), (3, .csl [encPR (pagesE p), encPR (procsE p), encPR (portsE p), encPR (semsE p)]), (4, .int .i64 n)]) (fun _ => K) (fun n => 4 - n) 0 (by simp [rck]) (Wk.regs (by simp)) fun n hn => ?_
  obtain ⟨hn, c1, c2, c3, c4⟩ := hn
  refine aC_sound (lv := []) _ _ _ _ ?_
  simp [hS.P]
  have hcases : n = 0 ∨ n = 1 ∨ n = 2 ∨ n = 3 ∨ n = 4 := by omega
  rcases hcases with rfl | rfl | rfl | rfl | rfl
  · simp [hS.P, code_none (pagesE_ok p)]
    by_cases he : pagesE p = .none
    · simp [hS.P, he]
      exact ⟨1, (show rck p 1 from ⟨by simp, fun _ => he, by simp, by simp, by simp⟩), by omega, Wk.regs (by simp [w1])⟩
    · have hx : planE p = pagesE p := by
        simp only [planE, restE, hidE, PE.or]
      simp [hS.P, he, g2]
      exact fin (put_keeps f1 hk) (pagesE p).code (pagesE p).place rfl (by rw [hx]; rfl)
  · simp [hS.P, code_none (procsE_ok p)]
    by_cases he : procsE p = .none
    · simp [hS.P, he]
      exact ⟨2, (show rck p 2 from ⟨by simp, fun _ => c1 (by omega), fun _ => he, by simp, by simp⟩), by omega, Wk.regs (by simp [w2])⟩
    · have hx : planE p = procsE p := by
        simp only [planE, restE, hidE, c1 (by omega), PE.or]
      simp [hS.P, he, g2]
      exact fin (put_keeps f1 hk) (procsE p).code (procsE p).place rfl (by rw [hx]; rfl)
  · simp [hS.P, code_none (portsE_ok p)]
    by_cases he : portsE p = .none
    · simp [hS.P, he]
      exact ⟨3, (show rck p 3 from ⟨by simp, fun _ => c1 (by omega), fun _ => c2 (by omega), fun _ => he, by simp⟩), by omega, Wk.regs (by simp [w3])⟩
    · have hx : planE p = portsE p := by
        simp only [planE, restE, hidE, c1 (by omega), c2 (by omega), PE.or]
      simp [hS.P, he, g2]
      exact fin (put_keeps f1 hk) (portsE p).code (portsE p).place rfl (by rw [hx]; rfl)
  · simp [hS.P, code_none (semsE_ok p)]
    by_cases he : semsE p = .none
    · simp [hS.P, he]
      exact ⟨4, (show rck p 4 from ⟨by simp, fun _ => c1 (by omega), fun _ => c2 (by omega), fun _ => c3 (by omega), fun _ => he⟩), by omega, Wk.regs (by simp [w4])⟩
    · have hx : planE p = semsE p := by
        simp only [planE, restE, hidE, c1 (by omega), c2 (by omega), c3 (by omega), PE.or]
      simp [hS.P, he, g2]
      exact fin (put_keeps f1 hk) (semsE p).code (semsE p).place rfl (by rw [hx]; rfl)
  · have hx : planE p = boundE p := by simp only [planE, restE, hidE, c1 (by omega), c2 (by omega), c3 (by omega), c4 (by omega), PE.or]
    have hev := semsE_events (c4 (by omega))
    simp [hS.P, g1]
    refine (rbound_spec hS p hp (portsE_none (c3 (by omega))) (by omega)).go ?_
    simp [hS.P]
    refine aCond_dec (fun h5 => ?_) (fun h5 => ?_)
    · simp [hS.P]
      refine (bad10_spec hS 11).go ?_
      simp [hS.P, g2]
      exact fin (put_keeps f1 hk) 11 (-1) rfl (by rw [hx]; simp only [boundE, if_pos h5]; rw [encPR_bare]; rfl)
    · simp [hS.P]
      refine (none10_spec hS).go ?_
      simp [hS.P, g2]
      exact fin (put_keeps f1 hk) 0 (-1) rfl (by rw [hx]; simp only [boundE, if_neg h5]; rw [encPR_none])
theorem rgood_spec {X : Ctx} (hS : Sent X) (p : PlanD) (hp : p.Small) : ACalc X 8 [encPlan p] (.bool (decide (planE p = .none))) := by
  intro H
  refine acalls' (N := 7) (rs := [.tmp 2]) [] (by rw [hS.P]; exact Tryz.func8) rfl rfl rfl (by decide) (by simp) ?_
  simp [entryR, hS.P]
  refine (rplanCheck_spec hS p hp).go ?_
  simp [hS.P, encPR, encR]
  exact Leave.data (put_keeps (by simp) (keeps_refl H)) (by simp) (by simp [code_none (planE_ok p)])
end Go.Proofs.YtndoembhbfiokaaGreatDoor.Am
set_option linter.unusedVariables false
set_option linter.unusedSimpArgs false
namespace Go.Proofs.YtndoembhbfiokaaGreatDoor.Am
open Go.RowKit Go.Proofs

structure WinD where
  part : Int
  start : Int
  len : Int
def encWin (w : WinD) : AV := .agg [.int .i64 w.part, .int .i64 w.start, .int .i64 w.len]
@[simp] theorem encWin_data (p : WinD) : (encWin p).Data := by simp [encWin]
@[simp] theorem encWin_good (p : WinD) : (encWin p).good = true := rfl
@[simp] theorem encWin_cells (w : WinD) : (encWin w).cells = [.int .i64 w.part, .int .i64 w.start, .int .i64 w.len] := rfl
structure LinkD where
  src : Int
  out : Int
  dst : Int
  inn : Int
def encLink (w : LinkD) : AV := .agg [.int .i64 w.src, .int .i64 w.out, .int .i64 w.dst, .int .i64 w.inn]
@[simp] theorem encLink_data (p : LinkD) : (encLink p).Data := by simp [encLink]
@[simp] theorem encLink_good (p : LinkD) : (encLink p).good = true := rfl
@[simp] theorem encLink_cells (w : LinkD) : (encLink w).cells = [.int .i64 w.src, .int .i64 w.out, .int .i64 w.dst, .int .i64 w.inn] := rfl
structure ConfD where
  ticks : Int
  parts : List PlanD
  homes : List Int
  windows : List WinD
  links : List LinkD
  tries : Int
def encConf (c : ConfD) : AV := .agg [.int .i64 c.ticks, .fsl (c.parts.map encPlan), .fsl (c.homes.map encInt), .fsl (c.windows.map encWin), .fsl (c.links.map encLink), .int .i64 c.tries]
@[simp] theorem encConf_cells (c : ConfD) : (encConf c).cells = [.int .i64 c.ticks, .fsl (c.parts.map encPlan), .fsl (c.homes.map encInt), .fsl (c.windows.map encWin), .fsl (c.links.map encLink), .int .i64 c.tries] := rfl
@[simp] theorem encConf_good (p : ConfD) : (encConf p).good = true := rfl
structure ConfD.Small (c : ConfD) : Prop where
  parts : c.parts.length ≤ 1073741824
  part : ∀ p ∈ c.parts, p.Small
  homes : c.homes.length ≤ 1073741824
  windows : c.windows.length ≤ 1073741824
  links : c.links.length ≤ 1073741824

def firstBadI {A : Type} (f : Nat → A → Nat) : List A → Nat → PE
  | [], _ => .none
  | a :: l, i => if f i a = 0 then firstBadI f l (i + 1) else .at i (f i a)
theorem firstBadI_drop {A : Type} {f : Nat → A → Nat} {l : List A} {n : Nat} {a : A} (h : l[n]? = some a) (i : Nat) : firstBadI f (l.drop n) i = if f i a = 0 then firstBadI f (l.drop (n + 1)) (i + 1) else .at i (f i a) := by
  obtain ⟨hn, he⟩ := List.getElem?_eq_some_iff.1 h
  rw [List.drop_eq_getElem_cons hn, he]; rfl
theorem firstBadI_ok {A : Type} {f : Nat → A → Nat} (hf : ∀ i a, f i a ≤ 20) : ∀ (l : List A) (i : Nat), (firstBadI f l i).Ok
  | [], _ => trivial
  | a :: l, i => by
    unfold firstBadI; split
    · exact firstBadI_ok hf l _
    · have := hf i a
      exact ⟨by omega, this⟩
open Classical in
noncomputable def partBad (i : Nat) (p : PlanD) : Nat := if planE p ≠ .none then 8 else if p.id ≠ i then 12 else 0
def homeBad (n : Int) : Nat := if n ≠ 0 ∧ n ≠ 1 then 4 else 0
noncomputable def homesE (c : ConfD) : PE := if c.homes.length ≠ c.parts.length then .bare 11 else firstBad homeBad c.homes 0
noncomputable def partsE (c : ConfD) : PE := if c.parts.length < 1 ∨ 8 < c.parts.length then .bare 11 else (firstBadI partBad c.parts 0).or (homesE c)
def rangeE (c : ConfD) : PE := if c.ticks < 1 ∨ 10000 < c.ticks ∨ c.tries < 1 ∨ 64 < c.tries then .bare 4 else .none

theorem frameAt_spec {X : Ctx} (hS : Sent X) (p : Int) (g : Nat) : ACalc X 108 [.int .i64 p, sentV g] (encErr (.at p g)) := by
  intro H
  refine acalls' (N := 10) (rs := [.tmp 4]) [] (by rw [hS.P]; exact Tryz.func108) rfl rfl rfl (by decide) (by simp) ?_
  simp [entryR, hS.P]
  refine Leave.frz (id := H.nx) (AH.get_put_same _ _ _) (.iface _ _ _ (.ptr 0 0)) ?_
  refine Leave.data (put_keeps (by simp) (put_keeps (by simp) (keeps_refl H))) (by simp) (by simp [encErr])
theorem there_spec {X : Ctx} (hS : Sent X) (c : ConfD) (n : Int) : ACalc X 80 [encConf c, .int .i64 n] (.bool (decide (0 ≤ n ∧ n < c.parts.length))) := by
  intro H
  refine acalls' (N := 14) (rs := [.tmp 4]) [] (by rw [hS.P]; exact Tryz.func80) rfl rfl rfl (by decide) (by simp) ?_
  simp [entryR, hS.P]
  by_cases h : 0 ≤ n
  · simp [h, hS.P]
    exact Leave.data (put_keeps (by simp) (keeps_refl H)) (by simp) (by simp [h])
  · simp [h, hS.P]
    exact Leave.data (put_keeps (by simp) (keeps_refl H)) (by simp) (by simp [h])
theorem owner_spec {X : Ctx} (hS : Sent X) (c : ConfD) (n : Int) : ACalc X 79 [encConf c, .int .i64 n] (.bool (decide (-1 ≤ n ∧ n < c.parts.length))) := by
  intro H
  refine acalls' (N := 12) (rs := [.tmp 4]) [] (by rw [hS.P]; exact Tryz.func79) rfl rfl rfl (by decide) (by simp) ?_
  simp [entryR, hS.P]
  by_cases h : n = -1
  · subst h
    simp [hS.P]
    exact Leave.data (put_keeps (by simp) (keeps_refl H)) (by simp) (by simp; omega)
  · simp [h, hS.P]
    refine (there_spec hS c n).go ?_
    simp [hS.P]
    exact Leave.data (put_keeps (by simp) (keeps_refl H)) (by simp) (by simp; rw [Bool.eq_iff_iff]; simp; omega)
theorem checkParts_spec {X : Ctx} (hS : Sent X) (c : ConfD) (hc : c.Small) : ACalc X 73 [encConf c] (encErr ((rangeE c).or (partsE c))) := by
  intro H
  refine acalls' (N := 85) (rs := [.tmp 2]) [] (by rw [hS.P]; exact Tryz.func73) rfl rfl rfl (by decide) (by simp) ?_
  obtain ⟨l1, l2, l3, l4, l5⟩ := id hc
  have fin0 : ∀ {v : AV} {K : AH}, (∀ i, H.get i ≠ .free → K.get i = H.get i) → ∀ e : PE, v = encErr e → e = (rangeE c).or (partsE c) → Leave X H v K fun v' H' => v' = encErr ((rangeE c).or (partsE c)) ∧ H' = H := fun hk e hv he => by
    subst hv; exact Leave.data hk (by simp) ⟨by rw [he], rfl⟩
  have hk0 : ∀ i, H.get i ≠ .free → (H.put H.nx (.row [encConf c] 6 0)).get i = H.get i := put_keeps (by simp) (keeps_refl H)
  have e4 : c.ticks < 1 ∨ 10000 < c.ticks ∨ c.tries < 1 ∨ 64 < c.tries → PE.bare 4 = (rangeE c).or (partsE c) := fun h => by simp only [rangeE, if_pos h, PE.or]
  simp [entryR, hS.P]
  refine aGuard_decf (fun h1 => ?_) (fun h1 => ?_)
  · simp [h1, hS.P, hS.e4]
    exact fin0 hk0 _ rfl (e4 (by omega))
  simp [h1, hS.P]
  refine aGuard_decf (fun h2 => ?_) (fun h2 => ?_)
  · simp [h2, hS.P, hS.e4]
    exact fin0 hk0 _ rfl (e4 (by omega))
  simp [h2, hS.P]
  refine aGuard_decf (fun h3 => ?_) (fun h3 => ?_)
  · simp [h3, hS.P, hS.e4]
    exact fin0 hk0 _ rfl (e4 (by omega))
  simp [h3, hS.P]
  refine aCond_dec (fun h4 => ?_) (fun h4 => ?_)
  · simp [hS.P, hS.e4]
    exact fin0 hk0 _ rfl (e4 (by omega))
  have hr : rangeE c = .none := by simp only [rangeE]; rw [if_neg (by omega)]
  have fin : ∀ {v : AV} {K : AH}, (∀ i, H.get i ≠ .free → K.get i = H.get i) → ∀ e : PE, v = encErr e → e = partsE c → Leave X H v K fun v' H' => v' = encErr ((rangeE c).or (partsE c)) ∧ H' = H := fun hk e hv he => fin0 hk e hv (by rw [hr]; exact he)
  simp [hS.P]
  refine aGuard_decf (fun h5 => ?_) (fun h5 => ?_)
  · simp [h5, hS.P, hS.e11]
    exact fin hk0 (.bare 11) rfl (by simp only [partsE]; rw [if_pos (by omega)])
  simp [h5, hS.P]
  refine aCond_mk (fun h6 => ?_) (fun h6 => ?_)
  · simp at h6
    simp [hS.P, hS.e11]
    exact fin hk0 (.bare 11) rfl (by simp only [partsE]; rw [if_pos (by omega)])
  simp at h6
  have hpE : partsE c = (firstBadI partBad c.parts 0).or (homesE c) := by simp only [partsE]; rw [if_neg (by omega)]
  simp [hS.P]
  refine AWp.loop (S := Nat × AH) (fun s => s.1 ≤ c.parts.length ∧ (firstBadI partBad (c.parts.drop s.1) s.1).or (homesE c) = partsE c ∧ s.2.get H.nx = .row [encConf c] 6 0 ∧ ∀ i, H.get i ≠ .free → s.2.get i = H.get i)
    (fun s => [(1, .ptr H.nx 0 0 0), (38, .fsl (c.parts.map encPlan)), (39, .int .i64 c.parts.length), (40, .int .i64 s.1)]) (fun s => s.2) (fun s => c.parts.length - s.1) (0, _) ⟨Nat.zero_le _, by simp [hpE], by simp, hk0⟩ (Wk.regs (by simp)) fun s hs => ?_
  obtain ⟨n, K⟩ := s
  obtain ⟨hn, hF, hg, hk⟩ := hs
  simp only at hn hF hk hg
  have hne : ¬ H.nx = K.nx := fun h => by have := AH.lt_nx (AH.ne_free hg); omega
  refine aC_sound (lv := []) _ _ _ _ ?_
  simp [hS.P]
  refine aCond_dec (fun hlt => ?_) (fun hge => ?_)
  · obtain ⟨x, hx⟩ : ∃ x, c.parts[n]? = some x := ⟨c.parts[n], List.getElem?_eq_getElem hlt⟩
    rw [firstBadI_drop hx] at hF
    simp [hS.P, hx]
    refine (planCheck_spec hS x (l2 x (List.mem_of_getElem? hx))).go ?_
    by_cases hpl : planE x = .none
    · simp [hS.P, hpl, encErr]
      refine aCond_mk (fun h7 => ?_) (fun h7 => ?_)
      · have hb : partBad n x = 12 := by simp at h7; simp [partBad, hpl, h7]
        simp [hS.P, hS.e12]
        refine (frameAt_spec hS n 12).go ?_
        simp [hS.P]
        exact fin (put_keeps (keepsNx hk) hk) (.at n 12) rfl (by rw [← hF, hb]; rfl)
      · have hb : partBad n x = 0 := by simp at h7; simp [partBad, hpl, h7]
        rw [hb, if_pos rfl] at hF
        simp
        exact ⟨n + 1, _, ⟨hlt, hF, by simp [hne, hg], put_keeps (keepsNx hk) hk⟩, by omega, Wk.regs (by simp [wrap1 (n := n) (by omega)])⟩
    · obtain ⟨T, v, hT⟩ := encErr_iface hpl
      have hb : partBad n x = 8 := by simp [partBad, hpl]
      simp [hS.P, hT, hS.e8]
      refine (frameAt_spec hS n 8).go ?_
      simp [hS.P]
      exact fin (put_keeps (keepsNx hk) hk) (.at n 8) rfl (by rw [← hF, hb]; rfl)
  · obtain rfl : n = c.parts.length := by omega
    simp [firstBadI] at hF
    have hF : homesE c = partsE c := hF
    simp [hS.P, hg]
    refine aCond_mk (fun h7 => ?_) (fun h7 => ?_)
    · simp at h7
      simp [hS.P, hS.e11]
      exact fin hk (.bare 11) rfl (by rw [← hF]; simp only [homesE]; rw [if_pos (by omega)])
    simp at h7
    have hhE : homesE c = firstBad homeBad c.homes 0 := by simp only [homesE]; rw [if_neg (by omega)]
    simp [hS.P, hg]
    refine AWp.loop (S := Nat) (fun n => n ≤ c.homes.length ∧ firstBad homeBad (c.homes.drop n) n = partsE c)
      (fun n => [(68, .fsl (c.homes.map encInt)), (69, .int .i64 c.homes.length), (70, .int .i64 n)]) (fun _ => K) (fun n => c.homes.length - n) 0 ⟨Nat.zero_le _, by simp [← hhE, hF]⟩ (Wk.regs (by simp)) fun n hs => ?_
    obtain ⟨hn, hF⟩ := hs
    refine aC_sound (lv := []) _ _ _ _ ?_
    simp [hS.P]
    refine aCond_dec (fun hlt => ?_) (fun hge => ?_)
    · obtain ⟨x, hx⟩ : ∃ x, c.homes[n]? = some x := ⟨c.homes[n], List.getElem?_eq_getElem hlt⟩
      rw [firstBad_drop hx] at hF
      by_cases z0 : x = 0
      · have hb : homeBad x = 0 := by simp [homeBad, z0]
        rw [hb, if_pos rfl] at hF
        simp [hS.P, hx, encInt, z0]
        exact ⟨n + 1, ⟨hlt, hF⟩, by omega, Wk.regs (by simp [wrap1 (n := n) (by omega), encInt])⟩
      by_cases z1 : x = 1
      · have hb : homeBad x = 0 := by simp [homeBad, z1]
        rw [hb, if_pos rfl] at hF
        simp [hS.P, hx, encInt, z1]
        exact ⟨n + 1, ⟨hlt, hF⟩, by omega, Wk.regs (by simp [wrap1 (n := n) (by omega), encInt])⟩
      · have hb : homeBad x = 4 := by simp [homeBad, z0, z1]
        simp [hS.P, hx, encInt, z0, z1, hS.e4]
        refine (frameAt_spec hS n 4).go ?_
        simp [hS.P]
        exact fin hk (.at n 4) rfl (by rw [← hF, hb]; rfl)
    · obtain rfl : n = c.homes.length := by omega
      simp at hF
      simp
      exact fin hk .none rfl hF
end Go.Proofs.YtndoembhbfiokaaGreatDoor.Am
set_option linter.unusedVariables false
set_option linter.unusedSimpArgs false
namespace Go.Proofs.YtndoembhbfiokaaGreatDoor.Am
open Go.RowKit Go.Proofs

/-- Where the first stands that a test takes; -1: there is none. -/
def firstAt {A : Type} (t : A → Bool) : List A → Nat → Int
  | [], _ => -1
  | a :: l, i => if t a = true then i else firstAt t l (i + 1)
theorem firstAt_drop {A : Type} {f : A → Bool} {l : List A} {n : Nat} {a : A} (h : l[n]? = some a) (i : Nat) : firstAt f (l.drop n) i = if f a = true then (i : Int) else firstAt f (l.drop (n + 1)) (i + 1) := by
  obtain ⟨hn, he⟩ := List.getElem?_eq_some_iff.1 h
  rw [List.drop_eq_getElem_cons hn, he]; rfl
theorem firstAt_any {A : Type} (f : A → Bool) : ∀ (l : List A) (i : Nat), (0 ≤ firstAt f l i) = (l.any f = true)
  | [], i => by simp [firstAt]
  | a :: l, i => by
    unfold firstAt
    split
    · rename_i h; simp [h]
    · rename_i h; rw [firstAt_any f l]; simp [h]
theorem winIndex_spec {X : Ctx} (hS : Sent X) (g : FuncId) (l : List WinD) (hl : l.length ≤ 1073741824) (cs : List AV) (t : WinD → Bool) (H : AH)
    (hc : ∀ x ∈ l, ACalls X g ([encWin x] ++ cs) H fun v H' => v = .bool (t x) ∧ H' = H) :
    ACalls X 150 [.fsl (l.map encWin), .func (.func g) [] cs] H fun v H' => v = .int .i64 (firstAt t l 0) ∧ H' = H := by
  refine acalls' (N := 19) (rs := [.tmp 4]) [] (by rw [hS.P]; exact Tryz.func150) rfl rfl rfl (by decide) (by simp) ?_
  simp [entryR, hS.P]
  refine AWp.loop (S := Nat) (fun n => n ≤ l.length ∧ firstAt t (l.drop n) n = firstAt t l 0)
    (fun n => [(0, .fsl (l.map encWin)), (1, .func (.func g) [] cs), (7, .int .i64 l.length), (8, .int .i64 n)]) (fun _ => H) (fun n => l.length - n) 0 ⟨Nat.zero_le _, by simp⟩ (Wk.regs (by simp)) fun n hs => ?_
  obtain ⟨hn, hF⟩ := hs
  refine aC_sound (lv := []) _ _ _ _ ?_
  simp [hS.P]
  refine aCond_dec (fun hlt => ?_) (fun hge => ?_)
  · obtain ⟨x, hx⟩ : ∃ x, l[n]? = some x := ⟨l[n], List.getElem?_eq_getElem hlt⟩
    rw [firstAt_drop hx] at hF
    simp [hS.P, hx]
    refine (hc x (List.mem_of_getElem? hx)).mono ?_
    rintro _ _ ⟨rfl, rfl⟩
    cases ht : t x with
    | true =>
      rw [ht, if_pos rfl] at hF
      simp
      exact Leave.data (keeps_refl _) (by simp) ⟨by rw [hF], rfl⟩
    | false =>
      rw [ht, if_neg (by simp)] at hF
      simp
      exact ⟨n + 1, ⟨hlt, hF⟩, by omega, Wk.regs (by simp [wrap1 (n := n) (by omega)])⟩
  · obtain rfl : n = l.length := by omega
    simp [firstAt] at hF
    simp
    exact Leave.data (keeps_refl _) (by simp) ⟨by rw [← hF], rfl⟩
theorem winContains_spec {X : Ctx} (hS : Sent X) (g : FuncId) (l : List WinD) (hl : l.length ≤ 1073741824) (cs : List AV) (t : WinD → Bool) (H : AH)
    (hc : ∀ x ∈ l, ACalls X g ([encWin x] ++ cs) H fun v H' => v = .bool (t x) ∧ H' = H) :
    ACalls X 136 [.fsl (l.map encWin), .func (.func g) [] cs] H fun v H' => v = .bool (l.any t) ∧ H' = H := by
  refine acalls' (N := 9) (rs := [.tmp 4]) [] (by rw [hS.P]; exact Tryz.func136) rfl rfl rfl (by decide) (by simp) ?_
  simp [entryR, hS.P]
  refine (winIndex_spec hS g l hl cs t H hc).mono ?_
  rintro _ _ ⟨rfl, rfl⟩
  simp
  have e : decide (0 ≤ firstAt t l 0) = l.any t := by rw [Bool.eq_iff_iff, decide_eq_true_iff, firstAt_any]
  exact Leave.data (keeps_refl _) (by simp) ⟨by rw [e], rfl⟩
theorem hasF_spec {X : Ctx} (hS : Sent X) (w : WinD) (n : Int) (i : Nat) {K : AH} (hi : K.get i = .row [.int .i64 n] 1 0) : ACalls X 137 [encWin w, .ptr i 0 0 0] K fun v H' => v = .bool (decide (w.part = n)) ∧ H' = K := by
  refine acalls' (N := 8) (rs := [.tmp 3]) [] (by rw [hS.P]; exact Tryz.func137) rfl rfl rfl (by decide) (by simp) ?_
  have hne : ¬ i = K.nx := fun h => by have := AH.lt_nx (AH.ne_free hi); omega
  simp [entryR, hS.P, hi, hne]
  exact Leave.data (put_keeps (by simp) (keeps_refl K)) (by simp) ⟨rfl, rfl⟩
theorem has_spec {X : Ctx} (hS : Sent X) (c : ConfD) (hc : c.Small) (n : Int) : ACalc X 109 [encConf c, .int .i64 n] (.bool (c.windows.any fun w => decide (w.part = n))) := by
  intro H
  refine acalls' (N := 9) (rs := [.tmp 4]) [] (by rw [hS.P]; exact Tryz.func109) rfl rfl rfl (by decide) (by simp) ?_
  simp [entryR, hS.P]
  refine (winContains_spec hS _ c.windows hc.windows _ (fun w => decide (w.part = n)) _ fun x _ => ?_).mono ?_
  · exact hasF_spec hS x n (H.nx + 1) (by simp)
  · rintro _ _ ⟨rfl, rfl⟩
    simp
    exact Leave.data (put_keeps (AH.free_add H 1) (put_keeps (by simp) (keeps_refl H))) (by simp) ⟨by simp, rfl⟩
end Go.Proofs.YtndoembhbfiokaaGreatDoor.Am
set_option linter.unusedVariables false
set_option linter.unusedSimpArgs false
namespace Go.Proofs.YtndoembhbfiokaaGreatDoor.Am
open Go.RowKit Go.Proofs

def winsE (c : ConfD) : List WinD → Nat → Int → PE
  | [], _, _ => .none
  | w :: l, i, e => if ¬ (-1 ≤ w.part ∧ w.part < c.parts.length) then .at i 12 else if w.start < 0 ∨ w.len < 1 ∨ c.ticks ≤ w.start ∨ c.ticks - w.start < w.len then .at i 4
    else if w.start < e then .at i 14 else winsE c l (i + 1) (w.start + w.len)
theorem winsE_drop {c : ConfD} {l : List WinD} {n : Nat} {w : WinD} (h : l[n]? = some w) (i : Nat) (e : Int) : winsE c (l.drop n) i e = if ¬ (-1 ≤ w.part ∧ w.part < c.parts.length) then .at i 12 else if w.start < 0 ∨ w.len < 1 ∨ c.ticks ≤ w.start ∨ c.ticks - w.start < w.len then .at i 4
    else if w.start < e then .at i 14 else winsE c (l.drop (n + 1)) (i + 1) (w.start + w.len) := by
  obtain ⟨hn, he⟩ := List.getElem?_eq_some_iff.1 h
  rw [List.drop_eq_getElem_cons hn, he]; rfl
def hasW (c : ConfD) (n : Int) : Bool := c.windows.any fun w => decide (w.part = n)
def noWin (c : ConfD) (i : Nat) (_ : PlanD) : Nat := if hasW c i = true then 0 else 17
def windowsE (c : ConfD) : PE := if 32 < c.windows.length then .bare 11 else (winsE c c.windows 0 0).or (firstBadI (noWin c) c.parts 0)
theorem checkWindows_spec {X : Ctx} (hS : Sent X) (c : ConfD) (hc : c.Small) (ht : 1 ≤ c.ticks ∧ c.ticks ≤ 10000) : ACalc X 74 [encConf c] (encErr (windowsE c)) := by
  intro H
  refine acalls' (N := 86) (rs := [.tmp 2]) [] (by rw [hS.P]; exact Tryz.func74) rfl rfl rfl (by decide) (by simp) ?_
  obtain ⟨l1, l2, l3, l4, l5⟩ := id hc
  have fin : ∀ {v : AV} {K : AH}, (∀ i, H.get i ≠ .free → K.get i = H.get i) → ∀ e : PE, v = encErr e → e = windowsE c → Leave X H v K fun v' H' => v' = encErr (windowsE c) ∧ H' = H := fun hk e hv he => by
    subst hv; exact Leave.data hk (by simp) ⟨by rw [he], rfl⟩
  have hk0 : ∀ i, H.get i ≠ .free → (H.put H.nx (.row [encConf c] 6 0)).get i = H.get i := put_keeps (by simp) (keeps_refl H)
  simp [entryR, hS.P]
  refine aCond_mk (fun h1 => ?_) (fun h1 => ?_)
  · simp at h1
    simp [hS.P, hS.e11]
    exact fin hk0 (.bare 11) rfl (by simp only [windowsE]; rw [if_pos (by omega)])
  simp at h1
  have hE : windowsE c = (winsE c c.windows 0 0).or (firstBadI (noWin c) c.parts 0) := by simp only [windowsE]; rw [if_neg (by omega)]
  simp [hS.P]
  refine AWp.loop (S := Nat × Int × AH) (fun s => s.1 ≤ c.windows.length ∧ (winsE c (c.windows.drop s.1) s.1 s.2.1).or (firstBadI (noWin c) c.parts 0) = windowsE c ∧ s.2.2.get H.nx = .row [encConf c] 6 0 ∧ ∀ i, H.get i ≠ .free → s.2.2.get i = H.get i)
    (fun s => [(1, .ptr H.nx 0 0 0), (3, .int .i64 s.2.1), (13, .fsl (c.windows.map encWin)), (14, .int .i64 c.windows.length), (15, .int .i64 s.1)]) (fun s => s.2.2) (fun s => c.windows.length - s.1) (0, 0, _) ⟨Nat.zero_le _, by simp [hE], by simp, hk0⟩ (Wk.regs (by simp)) fun s hs => ?_
  obtain ⟨n, e, K⟩ := s
  obtain ⟨hn, hF, hg, hk⟩ := hs
  simp only at hn hF hk hg
  have hne : ¬ H.nx = K.nx := fun h => by have := AH.lt_nx (AH.ne_free hg); omega
  refine aC_sound (lv := []) _ _ _ _ ?_
  simp [hS.P]
  refine aCond_dec (fun hlt => ?_) (fun hge => ?_)
  · obtain ⟨x, hx⟩ : ∃ x, c.windows[n]? = some x := ⟨c.windows[n], List.getElem?_eq_getElem hlt⟩
    rw [winsE_drop hx] at hF
    have hk2 : ∀ t, ∀ i, H.get i ≠ .free → (K.put K.nx t).get i = H.get i := fun t => put_keeps (keepsNx hk) hk
    simp [hS.P, hx, hg, hne]
    refine (owner_spec hS c x.part).go ?_
    by_cases ho : -1 ≤ x.part ∧ x.part < c.parts.length
    · rw [if_neg (by simpa using ho)] at hF
      have bad4 : (x.start < 0 ∨ x.len < 1 ∨ c.ticks ≤ x.start ∨ c.ticks - x.start < x.len) → PE.at n 4 = windowsE c := fun h => by rw [if_pos h] at hF; exact hF
      simp [hS.P, ho]
      refine aGuard_decf (fun h2 => ?_) (fun h2 => ?_)
      · simp [h2, hS.P, hS.e4]
        refine (frameAt_spec hS n 4).go ?_
        simp [hS.P]
        exact fin (hk2 _) _ rfl (bad4 (by omega))
      simp [h2, hS.P]
      refine aGuard_decf (fun h3 => ?_) (fun h3 => ?_)
      · simp [h3, hS.P, hS.e4]
        refine (frameAt_spec hS n 4).go ?_
        simp [hS.P]
        exact fin (hk2 _) _ rfl (bad4 (by omega))
      simp [h3, hS.P, hg, hne]
      refine aGuard_decf (fun h4 => ?_) (fun h4 => ?_)
      · simp [h4, hS.P, hS.e4]
        refine (frameAt_spec hS n 4).go ?_
        simp [hS.P]
        exact fin (hk2 _) _ rfl (bad4 (by omega))
      have w1 : IntKind.i64.wrap (c.ticks - x.start) = c.ticks - x.start := wrap64 (by omega) (by omega)
      simp [h4, hS.P, hg, hne, w1]
      refine aCond_dec (fun h5 => ?_) (fun h5 => ?_)
      · simp [hS.P, hS.e4]
        refine (frameAt_spec hS n 4).go ?_
        simp [hS.P]
        exact fin (hk2 _) _ rfl (bad4 (by omega))
      rw [if_neg (by omega)] at hF
      simp [hS.P]
      refine aCond_dec (fun h6 => ?_) (fun h6 => ?_)
      · rw [if_pos h6] at hF
        simp [hS.P, hS.e14]
        refine (frameAt_spec hS n 14).go ?_
        simp [hS.P]
        exact fin (hk2 _) _ rfl hF
      · rw [if_neg h6] at hF
        have w2 : IntKind.i64.wrap (x.start + x.len) = x.start + x.len := wrap64 (by omega) (by omega)
        simp [hS.P, w2]
        exact ⟨n + 1, x.start + x.len, _, ⟨hlt, hF, by simp [hne, hg], hk2 _⟩, by omega, Wk.regs (by simp [wrap1 (n := n) (by omega)])⟩
    · rw [if_pos ho] at hF
      simp [hS.P, ho, hS.e12]
      refine (frameAt_spec hS n 12).go ?_
      simp [hS.P]
      exact fin (hk2 _) _ rfl hF
  · obtain rfl : n = c.windows.length := by omega
    simp [winsE] at hF
    have hF : firstBadI (noWin c) c.parts 0 = windowsE c := hF
    simp [hS.P, hg]
    refine AWp.loop (S := Nat) (fun n => n ≤ c.parts.length ∧ firstBadI (noWin c) (c.parts.drop n) n = windowsE c)
      (fun n => [(1, .ptr H.nx 0 0 0), (74, .int .i64 c.parts.length), (75, .int .i64 n)]) (fun _ => K) (fun n => c.parts.length - n) 0 ⟨Nat.zero_le _, by simp [hF]⟩ (Wk.regs (by simp)) fun n hs => ?_
    obtain ⟨hn, hF⟩ := hs
    refine aC_sound (lv := []) _ _ _ _ ?_
    simp [hS.P]
    refine aCond_dec (fun hlt => ?_) (fun hge => ?_)
    · obtain ⟨x, hx⟩ : ∃ x, c.parts[n]? = some x := ⟨c.parts[n], List.getElem?_eq_getElem hlt⟩
      rw [firstBadI_drop hx] at hF
      simp [hS.P, hg]
      refine (has_spec hS c hc n).go ?_
      have hw : (c.windows.any fun w => decide (w.part = (n : Int))) = hasW c n := rfl
      rw [hw]
      cases hh : hasW c n with
      | true =>
        have hb : noWin c n x = 0 := by simp [noWin, hh]
        rw [hb, if_pos rfl] at hF
        simp [hS.P]
        exact ⟨n + 1, ⟨hlt, hF⟩, by omega, Wk.regs (by simp [wrap1 (n := n) (by omega)])⟩
      | false =>
        have hb : noWin c n x = 17 := by simp [noWin, hh]
        rw [hb, if_neg (by omega)] at hF
        simp [hS.P, hS.e17]
        refine (frameAt_spec hS n 17).go ?_
        simp [hS.P]
        exact fin hk _ rfl hF
    · obtain rfl : n = c.parts.length := by omega
      simp [firstBadI] at hF
      simp
      exact fin hk .none rfl hF
end Go.Proofs.YtndoembhbfiokaaGreatDoor.Am
set_option linter.unusedVariables false
set_option linter.unusedSimpArgs false
namespace Go.Proofs.YtndoembhbfiokaaGreatDoor.Am
open Go.RowKit Go.Proofs

def isPort (p : PlanD) (n a b : Int) : Bool := if n < 0 then false else match p.ports[n.toNat]? with
  | some q => decide (q.kind = a ∨ q.kind = b)
  | none => false
theorem isPort_spec {X : Ctx} (hS : Sent X) (p : PlanD) (n a b : Int) : ACalc X 110 [encPlan p, .int .i64 n, .int .i64 a, .int .i64 b] (.bool (isPort p n a b)) := by
  intro H
  refine acalls' (N := 38) (rs := [.tmp 8]) [] (by rw [hS.P]; exact Tryz.func110) rfl rfl rfl (by decide) (by simp) ?_
  simp [entryR, hS.P]
  by_cases h0 : n < 0
  · have h0' : ¬ 0 ≤ n := by omega
    simp [h0', hS.P]
    exact Leave.data (put_keeps (by simp) (keeps_refl H)) (by simp) (by simp [isPort, h0])
  · obtain ⟨k, rfl⟩ := Int.eq_ofNat_of_zero_le (show 0 ≤ n by omega)
    by_cases h1 : k < p.ports.length
    · obtain ⟨q, hq⟩ : ∃ q, p.ports[k]? = some q := ⟨p.ports[k], List.getElem?_eq_getElem h1⟩
      have hq2 : p.ports[k] = q := (List.getElem?_eq_some_iff.1 hq).2
      have hi : isPort p k a b = decide (q.kind = a ∨ q.kind = b) := by simp [isPort, hq]
      by_cases h2 : q.kind = a
      · simp [h1, hS.P, hq, hq2, h2]
        exact Leave.data (put_keeps (by simp) (keeps_refl H)) (by simp) (by simp [hi, h2])
      · simp [h1, hS.P, hq, hq2, h2]
        exact Leave.data (put_keeps (by simp) (keeps_refl H)) (by simp) (by simp [hi, h2])
    · have hi : isPort p k a b = false := by simp [isPort, List.getElem?_eq_none (Nat.le_of_not_lt h1)]
      simp [h1, hS.P]
      exact Leave.data (put_keeps (by simp) (keeps_refl H)) (by simp) (by simp [hi])
theorem planIndex_spec {X : Ctx} (hS : Sent X) (g : FuncId) (l : List PlanD) (hl : l.length ≤ 1073741824) (cs : List AV) (t : PlanD → Bool) (H : AH)
    (hc : ∀ x ∈ l, ACalls X g ([encPlan x] ++ cs) H fun v H' => v = .bool (t x) ∧ H' = H) :
    ACalls X 138 [.fsl (l.map encPlan), .func (.func g) [] cs] H fun v H' => v = .int .i64 (firstAt t l 0) ∧ H' = H := by
  refine acalls' (N := 19) (rs := [.tmp 4]) [] (by rw [hS.P]; exact Tryz.func138) rfl rfl rfl (by decide) (by simp) ?_
  simp [entryR, hS.P]
  refine AWp.loop (S := Nat) (fun n => n ≤ l.length ∧ firstAt t (l.drop n) n = firstAt t l 0)
    (fun n => [(0, .fsl (l.map encPlan)), (1, .func (.func g) [] cs), (7, .int .i64 l.length), (8, .int .i64 n)]) (fun _ => H) (fun n => l.length - n) 0 ⟨Nat.zero_le _, by simp⟩ (Wk.regs (by simp)) fun n hs => ?_
  obtain ⟨hn, hF⟩ := hs
  refine aC_sound (lv := []) _ _ _ _ ?_
  simp [hS.P]
  refine aCond_dec (fun hlt => ?_) (fun hge => ?_)
  · obtain ⟨x, hx⟩ : ∃ x, l[n]? = some x := ⟨l[n], List.getElem?_eq_getElem hlt⟩
    rw [firstAt_drop hx] at hF
    simp [hS.P, hx]
    refine (hc x (List.mem_of_getElem? hx)).mono ?_
    rintro _ _ ⟨rfl, rfl⟩
    cases ht : t x with
    | true =>
      rw [ht, if_pos rfl] at hF
      simp
      exact Leave.data (keeps_refl _) (by simp) ⟨by rw [hF], rfl⟩
    | false =>
      rw [ht, if_neg (by simp)] at hF
      simp
      exact ⟨n + 1, ⟨hlt, hF⟩, by omega, Wk.regs (by simp [wrap1 (n := n) (by omega)])⟩
  · obtain rfl : n = l.length := by omega
    simp [firstAt] at hF
    simp
    exact Leave.data (keeps_refl _) (by simp) ⟨by rw [← hF], rfl⟩
theorem planContains_spec {X : Ctx} (hS : Sent X) (g : FuncId) (l : List PlanD) (hl : l.length ≤ 1073741824) (cs : List AV) (t : PlanD → Bool) (H : AH)
    (hc : ∀ x ∈ l, ACalls X g ([encPlan x] ++ cs) H fun v H' => v = .bool (t x) ∧ H' = H) :
    ACalls X 111 [.fsl (l.map encPlan), .func (.func g) [] cs] H fun v H' => v = .bool (l.any t) ∧ H' = H := by
  refine acalls' (N := 9) (rs := [.tmp 4]) [] (by rw [hS.P]; exact Tryz.func111) rfl rfl rfl (by decide) (by simp) ?_
  simp [entryR, hS.P]
  refine (planIndex_spec hS g l hl cs t H hc).mono ?_
  rintro _ _ ⟨rfl, rfl⟩
  simp
  have e : decide (0 ≤ firstAt t l 0) = l.any t := by rw [Bool.eq_iff_iff, decide_eq_true_iff, firstAt_any]
  exact Leave.data (keeps_refl _) (by simp) ⟨by rw [e], rfl⟩
theorem mobileF_spec {X : Ctx} (hS : Sent X) (p : PlanD) (K : AH) : ACalls X 112 [encPlan p] K fun v H' => v = .bool p.mobile ∧ H' = K := by
  refine acalls' (N := 5) (rs := [.tmp 2]) [] (by rw [hS.P]; exact Tryz.func112) rfl rfl rfl (by decide) (by simp) ?_
  simp [entryR, hS.P]
  exact Leave.data (put_keeps (by simp) (keeps_refl K)) (by simp) ⟨rfl, rfl⟩
end Go.Proofs.YtndoembhbfiokaaGreatDoor.Am
set_option linter.unusedVariables false
set_option linter.unusedSimpArgs false
namespace Go.Proofs.YtndoembhbfiokaaGreatDoor.Am
open Go.RowKit Go.Proofs

def partAt (c : ConfD) (n : Int) : PlanD := (c.parts[n.toNat]?).getD ⟨0, false, [], [], [], 0, []⟩
def inParts (c : ConfD) (n : Int) : Prop := 0 ≤ n ∧ n < c.parts.length
instance (c : ConfD) (n : Int) : Decidable (inParts c n) := by unfold inParts; infer_instance
def linkBad (c : ConfD) (l : LinkD) : Nat :=
  if ¬ inParts c l.src ∨ ¬ inParts c l.dst ∨ l.src = l.dst then 12 else if (partAt c l.src).mobile = true ∨ (partAt c l.dst).mobile = true then 8
  else if isPort (partAt c l.src) l.out 2 4 = false ∨ isPort (partAt c l.dst) l.inn 1 3 = false then 7 else 0
def mobE (c : ConfD) : PE := if c.parts.any (·.mobile) = true ∧ hasW c (-1) = false then .bare 17 else .none
def linksE (c : ConfD) : PE := if 16 < c.links.length then .bare 11 else (firstBad (linkBad c) c.links 0).or (mobE c)
theorem there_spec' {X : Ctx} (hS : Sent X) (c : ConfD) (n : Int) : ACalc X 80 [encConf c, .int .i64 n] (.bool (decide (inParts c n))) := there_spec hS c n
theorem checkLinks_spec {X : Ctx} (hS : Sent X) (c : ConfD) (hc : c.Small) : ACalc X 75 [encConf c] (encErr (linksE c)) := by
  intro H
  refine acalls' (N := 99) (rs := [.tmp 2]) [] (by rw [hS.P]; exact Tryz.func75) rfl rfl rfl (by decide) (by simp) ?_
  obtain ⟨l1, l2, l3, l4, l5⟩ := id hc
  have fin : ∀ {v : AV} {K : AH}, (∀ i, H.get i ≠ .free → K.get i = H.get i) → ∀ e : PE, v = encErr e → e = linksE c → Leave X H v K fun v' H' => v' = encErr (linksE c) ∧ H' = H := fun hk e hv he => by
    subst hv; exact Leave.data hk (by simp) ⟨by rw [he], rfl⟩
  have hk0 : ∀ i, H.get i ≠ .free → (H.put H.nx (.row [encConf c] 6 0)).get i = H.get i := put_keeps (by simp) (keeps_refl H)
  simp [entryR, hS.P]
  refine aCond_mk (fun h1 => ?_) (fun h1 => ?_)
  · simp at h1
    simp [hS.P, hS.e11]
    exact fin hk0 (.bare 11) rfl (by simp only [linksE]; rw [if_pos (by omega)])
  simp at h1
  have hE : linksE c = (firstBad (linkBad c) c.links 0).or (mobE c) := by simp only [linksE]; rw [if_neg (by omega)]
  simp [hS.P]
  refine AWp.loop (S := Nat × AH) (fun s => s.1 ≤ c.links.length ∧ (firstBad (linkBad c) (c.links.drop s.1) s.1).or (mobE c) = linksE c ∧ s.2.get H.nx = .row [encConf c] 6 0 ∧ ∀ i, H.get i ≠ .free → s.2.get i = H.get i)
    (fun s => [(1, .ptr H.nx 0 0 0), (12, .fsl (c.links.map encLink)), (13, .int .i64 c.links.length), (14, .int .i64 s.1)]) (fun s => s.2) (fun s => c.links.length - s.1) (0, _) ⟨Nat.zero_le _, by simp [hE], by simp, hk0⟩ (Wk.regs (by simp)) fun s hs => ?_
  obtain ⟨n, K⟩ := s
  obtain ⟨hn, hF, hg, hk⟩ := hs
  simp only at hn hF hk hg
  have hne : ¬ H.nx = K.nx := fun h => by have := AH.lt_nx (AH.ne_free hg); omega
  refine aC_sound (lv := []) _ _ _ _ ?_
  simp [hS.P]
  refine aCond_dec (fun hlt => ?_) (fun hge => ?_)
  · obtain ⟨x, hx⟩ : ∃ x, c.links[n]? = some x := ⟨c.links[n], List.getElem?_eq_getElem hlt⟩
    rw [firstBad_drop hx] at hF
    have hk2 : ∀ t, ∀ i, H.get i ≠ .free → (K.put K.nx t).get i = H.get i := fun t => put_keeps (keepsNx hk) hk
    have done : ∀ b : Nat, linkBad c x = b → b ≠ 0 → PE.at n b = linksE c := fun b hb h0 => by rw [hb, if_neg h0] at hF; exact hF
    simp [hS.P, hx, hg, hne]
    refine (there_spec' hS c x.src).go ?_
    by_cases hs : inParts c x.src
    · simp [hS.P, hs, hg, hne]
      refine (there_spec' hS c x.dst).go ?_
      by_cases hd : inParts c x.dst
      · simp [hS.P, hs, hd, hg, hne]
        refine aCond_dec (fun he => ?_) (fun he => ?_)
        · simp [hS.P, hS.e12]
          refine (frameAt_spec hS n 12).go ?_
          simp [hS.P]
          exact fin (hk2 _) _ rfl (done 12 (by simp [linkBad, he]) (by omega))
        obtain ⟨a, ha⟩ := Int.eq_ofNat_of_zero_le hs.1
        obtain ⟨b, hb⟩ := Int.eq_ofNat_of_zero_le hd.1
        have hal : a < c.parts.length := by have := hs.2; omega
        have hbl : b < c.parts.length := by have := hd.2; omega
        have pa : partAt c x.src = c.parts[a] := by simp [partAt, ha, hal]
        have pb : partAt c x.dst = c.parts[b] := by simp [partAt, hb, hbl]
        simp [hS.P, hg, hne, ha, hb, hal, hbl]
        have b8 : (c.parts[a].mobile = true ∨ c.parts[b].mobile = true) → linkBad c x = 8 := fun h => by
          simp only [linkBad, pa, pb]
          rw [if_neg (fun h' => h'.elim (fun h' => h' hs) fun h' => h'.elim (fun h' => h' hd) he), if_pos h]
        cases hma : c.parts[a].mobile with
        | true =>
          simp [hS.P, hma, hS.e8]
          refine (frameAt_spec hS n 8).go ?_
          simp [hS.P]
          exact fin (hk2 _) _ rfl (done 8 (b8 (.inl hma)) (by omega))
        | false =>
          simp [hS.P, hma, hg, hne, hb, hbl]
          cases hmb : c.parts[b].mobile with
          | true =>
            simp [hS.P, hmb, hS.e8]
            refine (frameAt_spec hS n 8).go ?_
            simp [hS.P]
            exact fin (hk2 _) _ rfl (done 8 (b8 (.inr hmb)) (by omega))
          | false =>
            have b7 : ∀ y : Bool, (isPort c.parts[a] x.out 2 4 && isPort c.parts[b] x.inn 1 3) = y → linkBad c x = if y = true then 0 else 7 := fun y hy => by
              simp only [linkBad, pa, pb]
              rw [if_neg (fun h' => h'.elim (fun h' => h' hs) fun h' => h'.elim (fun h' => h' hd) he), if_neg (by simp [hma, hmb])]
              subst hy
              cases isPort c.parts[a] x.out 2 4 <;> cases isPort c.parts[b] x.inn 1 3 <;> simp
            simp [hS.P, hmb]
            rw [aC_draw (hc := by kernel_rfl)]
            simp [hS.P, hg, hne, ha, hal]
            refine (isPort_spec hS c.parts[a] x.out 2 4).call ?_
            cases hpa : isPort c.parts[a] x.out 2 4 with
            | false =>
              simp [hS.P]
              refine aIf_mk (chkH_reads (by simp)) ?_
              simp [hS.P, hS.e7]
              refine (frameAt_spec hS n 7).go ?_
              simp [hS.P]
              exact fin (hk2 _) _ rfl (done 7 (by have := b7 false (by simp [hpa]); simpa using this) (by omega))
            | true =>
              simp [hS.P, hg, hne, hb, hbl]
              refine (isPort_spec hS c.parts[b] x.inn 1 3).call ?_
              cases hpb : isPort c.parts[b] x.inn 1 3 with
              | false =>
                simp [hS.P]
                refine aIf_mk (chkH_reads (by simp)) ?_
                simp [hS.P, hS.e7]
                refine (frameAt_spec hS n 7).go ?_
                simp [hS.P]
                exact fin (hk2 _) _ rfl (done 7 (by have := b7 false (by simp [hpb]); simpa using this) (by omega))
              | true =>
                have hl0 : linkBad c x = 0 := by have := b7 true (by simp [hpa, hpb]); simpa using this
                rw [hl0, if_pos rfl] at hF
                simp [hS.P]
                refine aIf_mk (chkH_reads (by simp)) ?_
                simp [hS.P]
                exact ⟨n + 1, _, ⟨hlt, hF, by simp [hne, hg], hk2 _⟩, by omega, Wk.regs (by simp [wrap1 (n := n) (by omega)])⟩
      · simp [hS.P, hd, hS.e12]
        refine (frameAt_spec hS n 12).go ?_
        simp [hS.P]
        exact fin (hk2 _) _ rfl (done 12 (by simp [linkBad, hd]) (by omega))
    · simp [hS.P, hs, hS.e12]
      refine (frameAt_spec hS n 12).go ?_
      simp [hS.P]
      exact fin (hk2 _) _ rfl (done 12 (by simp [linkBad, hs]) (by omega))
  · obtain rfl : n = c.links.length := by omega
    simp [firstBad] at hF
    have hF : mobE c = linksE c := hF
    simp [hS.P, hg]
    refine (planContains_spec hS _ c.parts l1 [] (fun p => p.mobile) K fun x _ => mobileF_spec hS x K).mono ?_
    rintro _ K ⟨rfl, rfl⟩
    cases hm : c.parts.any (fun p => p.mobile) with
    | true =>
      simp [hS.P, hg]
      refine (has_spec hS c hc (-1)).go ?_
      have hw : (c.windows.any fun w => decide (w.part = (-1 : Int))) = hasW c (-1) := rfl
      rw [hw]
      cases hh : hasW c (-1) with
      | true =>
        simp [hS.P]
        exact fin hk .none rfl (by rw [← hF]; simp [mobE, hh])
      | false =>
        simp [hS.P, hS.e17]
        exact fin hk (.bare 17) rfl (by rw [← hF]; simp only [mobE]; rw [if_pos ⟨hm, hh⟩])
    | false =>
      simp [hS.P]
      exact fin hk .none rfl (by rw [← hF]; simp only [mobE]; rw [if_neg (by simp [hm])])
end Go.Proofs.YtndoembhbfiokaaGreatDoor.Am
set_option linter.unusedVariables false
set_option linter.unusedSimpArgs false
namespace Go.Proofs.YtndoembhbfiokaaGreatDoor.Am
open Go.RowKit Go.Proofs

noncomputable def headE (c : ConfD) : PE := (rangeE c).or (partsE c)
noncomputable def confE (c : ConfD) : PE := (headE c).or ((windowsE c).or (linksE c))
theorem or_none {a b : PE} (h : a.or b = .none) : a = .none ∧ b = .none := by
  cases a <;> simp only [PE.or] at h
  · exact ⟨rfl, h⟩
  · cases h
  · cases h
theorem or_left {a b : PE} (h : a ≠ .none) : a.or b = a := by
  cases a
  · exact absurd rfl h
  · rfl
  · rfl
theorem or_right {a b : PE} (h : a = .none) : a.or b = b := by subst h; rfl
theorem range_ok {c : ConfD} (h : headE c = .none) : 1 ≤ c.ticks ∧ c.ticks ≤ 10000 := by
  have := (or_none h).1
  unfold rangeE at this
  split at this
  · cases this
  · omega
def ccInv (c : ConfD) (H : AH) (s : Nat × AH) : Prop :=
  s.1 ≤ 3 ∧ (1 ≤ s.1 → headE c = .none) ∧ (2 ≤ s.1 → windowsE c = .none) ∧ (3 ≤ s.1 → linksE c = .none) ∧ s.2.get H.nx = .row [encConf c] 6 0 ∧ ∀ i, H.get i ≠ .free → s.2.get i = H.get i
theorem frameCheck_spec {X : Ctx} (hS : Sent X) (c : ConfD) (hc : c.Small) : ACalc X 31 [encConf c] (encErr (confE c)) := by
  intro H
  refine acalls' (N := 19) (rs := [.tmp 2]) [] (by rw [hS.P]; exact Tryz.func31) rfl rfl rfl (by decide) (by simp) ?_
  have fin : ∀ {K : AH} {v : AV}, (∀ i, H.get i ≠ .free → K.get i = H.get i) → ∀ e : PE, v = encErr e → e = confE c → Leave X H v K fun v' H' => v' = encErr (confE c) ∧ H' = H := fun hk e hv he => by
    subst hv; exact Leave.data hk (by simp) ⟨by rw [he], rfl⟩
  simp [entryR, hS.P]
  refine AWp.loop (S := Nat × AH) (ccInv c H)
    (fun s => [(1, .ptr H.nx 0 0 0), (6, .csl [.func (.func 73) [] [], .func (.func 74) [] [], .func (.func 75) [] []]), (7, .int .i64 3), (8, .int .i64 s.1)]) (fun s => s.2) (fun s => 3 - s.1) (0, _) ⟨by simp, by simp, by simp, by simp, by simp, put_keeps (by simp) (keeps_refl H)⟩ (Wk.regs (by simp)) fun s hs => ?_
  obtain ⟨n, K⟩ := s
  obtain ⟨hn, c1, c2, c3, hg, hk⟩ := hs
  simp only at hn hk hg c1 c2 c3
  have w1 : IntKind.i64.wrap 1 = 1 := by decide
  have w2 : IntKind.i64.wrap 2 = 2 := by decide
  have w3 : IntKind.i64.wrap 3 = 3 := by decide
  refine aC_sound (lv := []) _ _ _ _ ?_
  simp [hS.P]
  have hcases : n = 0 ∨ n = 1 ∨ n = 2 ∨ n = 3 := by omega
  rcases hcases with rfl | rfl | rfl | rfl
  · simp [hS.P, hg]
    refine (checkParts_spec hS c hc).go ?_
    have hh : (rangeE c).or (partsE c) = headE c := rfl
    rw [hh]
    by_cases he : headE c = .none
    · simp [hS.P, he, encErr]
      exact ⟨1, K, (show ccInv c H (1, K) from ⟨by simp, fun _ => he, by simp, by simp, hg, hk⟩), by omega, Wk.regs (by simp [w1])⟩
    · obtain ⟨T, v, hT⟩ := encErr_iface he
      simp [hS.P, hT]
      exact fin hk _ hT.symm (or_left he).symm
  · have h1 := c1 (by omega)
    simp [hS.P, hg]
    refine (checkWindows_spec hS c hc (range_ok h1)).go ?_
    by_cases he : windowsE c = .none
    · simp [hS.P, he, encErr]
      exact ⟨2, K, (show ccInv c H (2, K) from ⟨by simp, fun _ => h1, fun _ => he, by simp, hg, hk⟩), by omega, Wk.regs (by simp [w2])⟩
    · obtain ⟨T, v, hT⟩ := encErr_iface he
      simp [hS.P, hT]
      exact fin hk _ hT.symm (by rw [confE, or_right h1, or_left he])
  · have h1 := c1 (by omega)
    have h2 := c2 (by omega)
    simp [hS.P, hg]
    refine (checkLinks_spec hS c hc).go ?_
    by_cases he : linksE c = .none
    · simp [hS.P, he, encErr]
      exact ⟨3, K, (show ccInv c H (3, K) from ⟨by simp, fun _ => h1, fun _ => h2, fun _ => he, hg, hk⟩), by omega, Wk.regs (by simp [w3])⟩
    · obtain ⟨T, v, hT⟩ := encErr_iface he
      simp [hS.P, hT]
      exact fin hk _ hT.symm (by rw [confE, or_right h1, or_right h2])
  · simp
    exact fin hk .none rfl (by rw [confE, or_right (c1 (by omega)), or_right (c2 (by omega)), c3 (by omega)])
end Go.Proofs.YtndoembhbfiokaaGreatDoor.Am
set_option linter.unusedVariables false
set_option linter.unusedSimpArgs false
namespace Go.Proofs.YtndoembhbfiokaaGreatDoor.Am
open Go.RowKit Go.Proofs

theorem none14_spec {X : Ctx} (hS : Sent X) : ACalc X 118 [] (encR 0 (-1)) := by
  intro H
  refine acalls' (N := 2) (rs := [.cell 0 147]) [] (by rw [hS.P]; exact Tryz.func118) rfl rfl rfl (by decide) (by simp) ?_
  simp [entryR, hS.P]
  exact Leave.data (put_keeps (by simp) (keeps_refl H)) (by simp) (by simp [encR])
theorem bad14_spec {X : Ctx} (hS : Sent X) (c : Int) : ACalc X 113 [.int .i64 c] (encR c (-1)) := by
  intro H
  refine acalls' (N := 5) (rs := [.cell 2 147]) [] (by rw [hS.P]; exact Tryz.func113) rfl rfl rfl (by decide) (by simp) ?_
  simp [entryR, hS.P]
  exact Leave.data (put_keeps (by simp) (keeps_refl H)) (by simp) (by simp [encR])
theorem rowner_spec {X : Ctx} (hS : Sent X) (c : ConfD) (n : Int) : ACalc X 78 [encConf c, .int .i64 n] (.bool (decide (-1 ≤ n ∧ n < c.parts.length))) := by
  intro H
  refine acalls' (N := 14) (rs := [.tmp 4]) [] (by rw [hS.P]; exact Tryz.func78) rfl rfl rfl (by decide) (by simp) ?_
  simp [entryR, hS.P]
  by_cases h : -1 ≤ n
  · simp [h, hS.P]
    exact Leave.data (put_keeps (by simp) (keeps_refl H)) (by simp) (by simp [h])
  · simp [h, hS.P]
    exact Leave.data (put_keeps (by simp) (keeps_refl H)) (by simp) (by simp [h])
theorem rparts_spec {X : Ctx} (hS : Sent X) (c : ConfD) (hc : c.Small) : ACalc X 114 [encConf c] (encPR (partsE c)) := by
  intro H
  refine acalls' (N := 74) (rs := [.cell 2 147]) [] (by rw [hS.P]; exact Tryz.func114) rfl rfl rfl (by decide) (by simp) ?_
  obtain ⟨l1, l2, l3, l4, l5⟩ := id hc
  have f1 : H.get (H.nx + 1) = .free := AH.free_add H 1
  have fin : ∀ {K : AH} {v : AV}, (∀ i, H.get i ≠ .free → K.get i = H.get i) → ∀ (p : Int) (q : Int), v = encR p q → encR p q = encPR (partsE c) → Leave X H v K fun v' H' => v' = encPR (partsE c) ∧ H' = H := fun hk p q hv he => by
    subst hv; exact Leave.data hk (by simp) ⟨he, rfl⟩
  have e11 : c.parts.length < 1 ∨ 8 < c.parts.length → encR 11 (-1) = encPR (partsE c) := fun h => by simp only [partsE, if_pos h]; rw [encPR_bare]; rfl
  simp [entryR, hS.P]
  refine aGuard_decf (fun h1 => ?_) (fun h1 => ?_)
  · simp [h1, hS.P]
    refine (bad14_spec hS 11).go ?_
    simp [hS.P]
    exact fin (put_keeps f1 (put_keeps (by simp) (keeps_refl H))) _ _ rfl (e11 (by omega))
  simp [h1, hS.P]
  refine aCond_mk (fun h2 => ?_) (fun h2 => ?_)
  · simp at h2
    simp [hS.P]
    refine (bad14_spec hS 11).go ?_
    simp [hS.P]
    exact fin (put_keeps f1 (put_keeps (by simp) (keeps_refl H))) _ _ rfl (e11 (by omega))
  simp at h2
  have hE : partsE c = (firstBadI partBad c.parts 0).or (homesE c) := by simp only [partsE]; rw [if_neg (by omega)]
  simp [hS.P]
  generalize hK : (AH.put _ (H.nx + 1) _) = K
  have g1 : K.get H.nx = .row [encConf c] 6 0 := by rw [← hK]; simp
  have g2 : K.get (H.nx + 1) = .row [.agg [.int .i64 0, .int .i64 0]] 2 0 := by rw [← hK]; simp
  have hk : ∀ i, H.get i ≠ .free → K.get i = H.get i := by rw [← hK]; exact put_keeps f1 (put_keeps (by simp) (keeps_refl H))
  refine AWp.loop (S := Nat) (fun n => n ≤ c.parts.length ∧ (firstBadI partBad (c.parts.drop n) n).or (homesE c) = partsE c)
    (fun n => [(1, .ptr H.nx 0 0 0), (2, .ptr (H.nx + 1) 0 0 0), (3, .int .i64 n)]) (fun _ => K) (fun n => c.parts.length - n) 0 ⟨Nat.zero_le _, by simp [hE]⟩ (Wk.regs (by simp)) fun n hs => ?_
  obtain ⟨hn, hF⟩ := hs
  refine aC_sound (lv := []) _ _ _ _ ?_
  simp [hS.P, g1]
  refine aCond_dec (fun hlt => ?_) (fun hge => ?_)
  · obtain ⟨x, hx⟩ : ∃ x, c.parts[n]? = some x := ⟨c.parts[n], List.getElem?_eq_getElem hlt⟩
    rw [firstBadI_drop hx] at hF
    have bad : ∀ b : Nat, partBad n x = b → b ≠ 0 → encR b n = encPR (partsE c) := fun b hb h0 => by rw [hb, if_neg h0] at hF; rw [← hF, or_left (by simp), encPR_at _ _ h0]
    simp [hS.P, g1, hx]
    refine (rgood_spec hS x (l2 x (List.mem_of_getElem? hx))).go ?_
    by_cases hpl : planE x = .none
    · simp [hS.P, hpl, g1, hx]
      refine aCond_mk (fun h7 => ?_) (fun h7 => ?_)
      · have hb : partBad n x = 12 := by simp at h7; simp [partBad, hpl, h7]
        simp [hS.P, g2]
        exact fin (put_keeps f1 hk) 12 n rfl (bad 12 hb (by omega))
      · have hb : partBad n x = 0 := by simp at h7; simp [partBad, hpl, h7]
        rw [hb, if_pos rfl] at hF
        simp
        exact ⟨n + 1, ⟨hlt, hF⟩, by omega, Wk.regs (by simp [wrap1 (n := n) (by omega)])⟩
    · have hb : partBad n x = 8 := by simp [partBad, hpl]
      simp [hS.P, hpl, g2]
      exact fin (put_keeps f1 hk) 8 n rfl (bad 8 hb (by omega))
  · obtain rfl : n = c.parts.length := by omega
    simp [firstBadI] at hF
    have hF : homesE c = partsE c := hF
    simp [hS.P, g1]
    refine aCond_mk (fun h7 => ?_) (fun h7 => ?_)
    · simp at h7
      simp [hS.P]
      refine (bad14_spec hS 11).go ?_
      simp [hS.P, g2]
      exact fin (put_keeps f1 hk) 11 (-1) rfl (by rw [← hF]; simp only [homesE]; rw [if_pos (by omega), encPR_bare]; rfl)
    simp at h7
    have hhE : homesE c = firstBad homeBad c.homes 0 := by simp only [homesE]; rw [if_neg (by omega)]
    simp [hS.P]
    refine AWp.loop (S := Nat) (fun n => n ≤ c.homes.length ∧ firstBad homeBad (c.homes.drop n) n = partsE c)
      (fun n => [(1, .ptr H.nx 0 0 0), (2, .ptr (H.nx + 1) 0 0 0), (4, .int .i64 n)]) (fun _ => K) (fun n => c.homes.length - n) 0 ⟨Nat.zero_le _, by simp [← hhE, hF]⟩ (Wk.regs (by simp)) fun n hs => ?_
    obtain ⟨hn, hF⟩ := hs
    refine aC_sound (lv := []) _ _ _ _ ?_
    simp [hS.P, g1]
    refine aCond_dec (fun hlt => ?_) (fun hge => ?_)
    · obtain ⟨x, hx⟩ : ∃ x, c.homes[n]? = some x := ⟨c.homes[n], List.getElem?_eq_getElem hlt⟩
      rw [firstBad_drop hx] at hF
      by_cases z0 : x = 0
      · have hb : homeBad x = 0 := by simp [homeBad, z0]
        rw [hb, if_pos rfl] at hF
        simp [hS.P, g1, hx, encInt, z0]
        exact ⟨n + 1, ⟨hlt, hF⟩, by omega, Wk.regs (by simp [wrap1 (n := n) (by omega)])⟩
      by_cases z1 : x = 1
      · have hb : homeBad x = 0 := by simp [homeBad, z1]
        rw [hb, if_pos rfl] at hF
        simp [hS.P, g1, hx, encInt, z1]
        exact ⟨n + 1, ⟨hlt, hF⟩, by omega, Wk.regs (by simp [wrap1 (n := n) (by omega)])⟩
      · have hb : homeBad x = 4 := by simp [homeBad, z0, z1]
        rw [hb, if_neg (by omega)] at hF
        simp [hS.P, g1, g2, hx, encInt, z0, z1]
        exact fin (put_keeps f1 hk) 4 n rfl (by rw [← hF, encPR_at _ _ (by omega)]; rfl)
    · obtain rfl : n = c.homes.length := by omega
      simp [firstBad] at hF
      simp
      refine (none14_spec hS).go ?_
      simp [hS.P, g2]
      exact fin (put_keeps f1 hk) 0 (-1) rfl (by rw [← hF]; exact encPR_none.symm)
end Go.Proofs.YtndoembhbfiokaaGreatDoor.Am
set_option linter.unusedVariables false
set_option linter.unusedSimpArgs false
namespace Go.Proofs.YtndoembhbfiokaaGreatDoor.Am
open Go.RowKit Go.Proofs

def cntW (l : List WinD) (n : Int) : Nat := (l.filter fun w => decide (w.part = n)).length
theorem cntW_take {l : List WinD} {k : Nat} {w : WinD} (h : l[k]? = some w) (n : Int) : cntW (l.take (k + 1)) n = cntW (l.take k) n + if w.part = n then 1 else 0 := by
  simp only [cntW, List.take_add_one, h, Option.toList_some, List.filter_append, List.length_append]
  by_cases hw : w.part = n <;> simp [hw]
theorem cntW_le (l : List WinD) (n : Int) : cntW l n ≤ l.length := List.length_filter_le _ _
theorem cntW_has (c : ConfD) (n : Int) : (cntW c.windows n = 0) ↔ hasW c n = false := by
  simp only [cntW, hasW, List.length_eq_zero_iff, List.filter_eq_nil_iff, List.any_eq_false]
theorem rcount_spec {X : Ctx} (hS : Sent X) (c : ConfD) (hc : c.Small) (n : Int) : ACalc X 117 [encConf c, .int .i64 n] (.int .i64 (cntW c.windows n)) := by
  intro H
  refine acalls' (N := 25) (rs := [.tmp 4]) [] (by rw [hS.P]; exact Tryz.func117) rfl rfl rfl (by decide) (by simp) ?_
  have l4 := hc.windows
  simp [entryR, hS.P]
  refine AWp.loop (S := Nat) (fun k => k ≤ c.windows.length)
    (fun k => [(1, .int .i64 n), (2, .ptr H.nx 0 0 0), (5, .int .i64 (cntW (c.windows.take k) n)), (6, .int .i64 k)]) (fun _ => H.put H.nx (.row [encConf c] 6 0)) (fun k => c.windows.length - k) 0 (Nat.zero_le _) (Wk.regs (by simp [cntW])) fun k hk => ?_
  refine aC_sound (lv := []) _ _ _ _ ?_
  simp [hS.P]
  refine aCond_dec (fun hlt => ?_) (fun hge => ?_)
  · obtain ⟨x, hx⟩ : ∃ x, c.windows[k]? = some x := ⟨c.windows[k], List.getElem?_eq_getElem hlt⟩
    have ht := cntW_take hx n
    have hle := cntW_le (c.windows.take k) n
    have hle2 : (c.windows.take k).length ≤ k := by simp; omega
    simp [hS.P, hx]
    refine aCond_dec (fun h => ?_) (fun h => ?_)
    · rw [if_pos h] at ht
      simp
      refine ⟨k + 1, hlt, by omega, Wk.regs (by simp [wrap1 (n := k) (by omega), wrap1 (n := cntW (c.windows.take k) n) (by omega), ht])⟩
    · rw [if_neg h] at ht
      simp
      refine ⟨k + 1, hlt, by omega, Wk.regs (by simp [wrap1 (n := k) (by omega), ht])⟩
  · obtain rfl : k = c.windows.length := by omega
    simp
    exact Leave.data (put_keeps (by simp) (keeps_refl H)) (by simp) ⟨rfl, rfl⟩
def kindAt (p : PlanD) (n : Int) : Int := if n < 0 then 0 else match p.ports[n.toNat]? with
  | some q => q.kind
  | none => 0
theorem rkind_spec {X : Ctx} (hS : Sent X) (c : ConfD) (a : Nat) (n : Int) (ha : a < c.parts.length) : ACalc X 139 [encConf c, .int .i64 a, .int .i64 n] (.int .i64 (kindAt c.parts[a] n)) := by
  intro H
  refine acalls' (N := 27) (rs := [.tmp 6]) [] (by rw [hS.P]; exact Tryz.func139) rfl rfl rfl (by decide) (by simp) ?_
  simp [entryR, hS.P, ha]
  by_cases h0 : n < 0
  · simp [h0, hS.P]
    exact Leave.data (put_keeps (by simp) (keeps_refl H)) (by simp) (by simp [kindAt, h0])
  · obtain ⟨k, rfl⟩ := Int.eq_ofNat_of_zero_le (show 0 ≤ n by omega)
    by_cases h1 : k < c.parts[a].ports.length
    · have h1' : ¬ c.parts[a].ports.length ≤ k := by omega
      simp [h0, h1, h1', hS.P]
      exact Leave.data (put_keeps (by simp) (keeps_refl H)) (by simp) (by simp [kindAt, h0, h1])
    · have h1' : c.parts[a].ports.length ≤ k := by omega
      simp [h0, h1', hS.P]
      exact Leave.data (put_keeps (by simp) (keeps_refl H)) (by simp) (by simp [kindAt, h0, List.getElem?_eq_none h1'])
theorem isPort_kind (p : PlanD) (n a b : Int) (ha : a ≠ 0) (hb : b ≠ 0) : isPort p n a b = decide (kindAt p n = a ∨ kindAt p n = b) := by
  unfold isPort kindAt
  by_cases h : n < 0
  · simp [h]; omega
  · cases hp : p.ports[n.toNat]? with
    | some q => simp [h, hp]
    | none => simp [h, hp]; omega
end Go.Proofs.YtndoembhbfiokaaGreatDoor.Am
set_option linter.unusedVariables false
set_option linter.unusedSimpArgs false
namespace Go.Proofs.YtndoembhbfiokaaGreatDoor.Am
open Go.RowKit Go.Proofs

def prevOK (c : ConfD) (n : Nat) (e : Int) : Prop := (n = 0 ∧ e = 0) ∨ ∃ m q, n = m + 1 ∧ c.windows[m]? = some q ∧ e = q.start + q.len ∧ 0 ≤ q.start ∧ q.start ≤ 10000 ∧ 0 ≤ q.len ∧ q.len ≤ 10000
theorem rwindows_spec {X : Ctx} (hS : Sent X) (c : ConfD) (hc : c.Small) (ht : 1 ≤ c.ticks ∧ c.ticks ≤ 10000) : ACalc X 115 [encConf c] (encPR (windowsE c)) := by
  intro H
  refine acalls' (N := 95) (rs := [.cell 2 147]) [] (by rw [hS.P]; exact Tryz.func115) rfl rfl rfl (by decide) (by simp) ?_
  obtain ⟨l1, l2, l3, l4, l5⟩ := id hc
  have f1 : H.get (H.nx + 1) = .free := AH.free_add H 1
  have fin : ∀ {K : AH} {v : AV}, (∀ i, H.get i ≠ .free → K.get i = H.get i) → ∀ (p : Int) (q : Int), v = encR p q → encR p q = encPR (windowsE c) → Leave X H v K fun v' H' => v' = encPR (windowsE c) ∧ H' = H := fun hk p q hv he => by
    subst hv; exact Leave.data hk (by simp) ⟨he, rfl⟩
  simp [entryR, hS.P]
  refine aCond_mk (fun h1 => ?_) (fun h1 => ?_)
  · simp at h1
    simp [hS.P]
    refine (bad14_spec hS 11).go ?_
    simp [hS.P]
    exact fin (put_keeps f1 (put_keeps (by simp) (keeps_refl H))) 11 (-1) rfl (by simp only [windowsE]; rw [if_pos (by omega), encPR_bare]; rfl)
  simp at h1
  have hE : windowsE c = (winsE c c.windows 0 0).or (firstBadI (noWin c) c.parts 0) := by simp only [windowsE]; rw [if_neg (by omega)]
  simp [hS.P]
  refine AWp.loop (S := Nat × Int × AH) (fun s => s.1 ≤ c.windows.length ∧ (winsE c (c.windows.drop s.1) s.1 s.2.1).or (firstBadI (noWin c) c.parts 0) = windowsE c ∧ prevOK c s.1 s.2.1 ∧ s.2.2.get H.nx = .row [encConf c] 6 0 ∧ s.2.2.get (H.nx + 1) = .row [.agg [.int .i64 0, .int .i64 0]] 2 0 ∧ ∀ i, H.get i ≠ .free → s.2.2.get i = H.get i)
    (fun s => [(1, .ptr H.nx 0 0 0), (2, .ptr (H.nx + 1) 0 0 0), (3, .int .i64 s.1)]) (fun s => s.2.2) (fun s => c.windows.length - s.1) (0, 0, _) ⟨Nat.zero_le _, by simp [hE], .inl ⟨rfl, rfl⟩, by simp, by simp, put_keeps f1 (put_keeps (by simp) (keeps_refl H))⟩ (Wk.regs (by simp)) fun s hs => ?_
  obtain ⟨n, e, K⟩ := s
  obtain ⟨hn, hF, hpr, hg, g2, hk⟩ := hs
  simp only at hn hF hk hg hpr g2
  have hne : ¬ H.nx = K.nx := fun h => by have := AH.lt_nx (AH.ne_free hg); omega
  have hne2 : ¬ H.nx + 1 = K.nx := fun h => by have := AH.lt_nx (AH.ne_free g2); omega
  refine aC_sound (lv := []) _ _ _ _ ?_
  simp [hS.P, hg]
  refine aCond_dec (fun hlt => ?_) (fun hge => ?_)
  · obtain ⟨x, hx⟩ : ∃ x, c.windows[n]? = some x := ⟨c.windows[n], List.getElem?_eq_getElem hlt⟩
    rw [winsE_drop hx] at hF
    have hk2 : ∀ t t2, ∀ i, H.get i ≠ .free → ((K.put K.nx t).put (H.nx + 1) t2).get i = H.get i := fun t t2 => put_keeps f1 (put_keeps (keepsNx hk) hk)
    have pl : ∀ b : Nat, b ≠ 0 → PE.at n b = windowsE c → encR b n = encPR (windowsE c) := fun b h0 h => by rw [← h, encPR_at _ _ h0]
    simp [hS.P, hx, hg, hne, hne2]
    refine (rowner_spec hS c x.part).go ?_
    by_cases ho : -1 ≤ x.part ∧ x.part < c.parts.length
    · rw [if_neg (by simpa using ho)] at hF
      have bad4 : (x.start < 0 ∨ x.len < 1 ∨ c.ticks ≤ x.start ∨ c.ticks - x.start < x.len) → encR 4 n = encPR (windowsE c) := fun h => by rw [if_pos h] at hF; exact pl 4 (by omega) hF
      simp [hS.P, ho]
      refine aGuard_decf (fun h2 => ?_) (fun h2 => ?_)
      · simp [h2, hS.P, g2, hne2]
        exact fin (hk2 _ _) 4 n rfl (bad4 (by omega))
      simp [h2, hS.P]
      refine aGuard_decf (fun h3 => ?_) (fun h3 => ?_)
      · simp [h3, hS.P, g2, hne2]
        exact fin (hk2 _ _) 4 n rfl (bad4 (by omega))
      simp [h3, hS.P, hg, hne]
      refine aGuard_decf (fun h4 => ?_) (fun h4 => ?_)
      · simp [h4, hS.P, g2, hne2]
        exact fin (hk2 _ _) 4 n rfl (bad4 (by omega))
      have w1 : IntKind.i64.wrap (c.ticks - x.start) = c.ticks - x.start := wrap64 (by omega) (by omega)
      simp [h4, hS.P, hg, hne, w1]
      refine aCond_dec (fun h5 => ?_) (fun h5 => ?_)
      · simp [hS.P, g2, hne2]
        exact fin (hk2 _ _) 4 n rfl (bad4 (by omega))
      rw [if_neg (by omega)] at hF
      have next : ¬ x.start < e → (winsE c (c.windows.drop (n + 1)) (n + 1) (x.start + x.len)).or (firstBadI (noWin c) c.parts 0) = windowsE c ∧ prevOK c (n + 1) (x.start + x.len) := fun h6 => by
        rw [if_neg h6] at hF
        exact ⟨hF, .inr ⟨n, x, rfl, hx, rfl, by omega, by omega, by omega, by omega⟩⟩
      simp [hS.P]
      rw [aC_draw (hc := by kernel_rfl)]
      rcases hpr with ⟨rfl, rfl⟩ | ⟨m, q, rfl, hq, rfl, q1, q2, q3, q4⟩
      · obtain ⟨n1, n2⟩ := next h2
        simp [hS.P]
        exact ⟨1, x.start + x.len, _, ⟨hlt, n1, n2, by simp [hne, hg], by simp [hne2, g2], put_keeps (keepsNx hk) hk⟩, by omega, Wk.regs (by simp [show IntKind.i64.wrap 1 = 1 by decide])⟩
      · have hml : m < c.windows.length := by omega
        have w4 := wrap1 (n := m + 1) (by omega)
        simp at w4
        have hq2 : c.windows[m] = q := (List.getElem?_eq_some_iff.1 hq).2
        have w2 : IntKind.i64.wrap (m : Int) = (m : Int) := wrap64 (by omega) (by omega)
        have w3 : IntKind.i64.wrap (q.start + q.len) = q.start + q.len := wrap64 (by omega) (by omega)
        simp [hS.P, hg, hne, hml, hq2, w2, w3]
        refine aIf_mk (chkH_reads (by simp)) ?_
        refine aCond_dec (fun h6 => ?_) (fun h6 => ?_)
        · rw [if_pos h6] at hF
          simp [hS.P, g2, hne2]
          exact fin (hk2 _ _) 14 _ rfl (pl 14 (by omega) hF)
        · obtain ⟨n1, n2⟩ := next h6
          simp
          exact ⟨m + 1 + 1, x.start + x.len, _, ⟨hlt, n1, n2, by simp [hne, hg], by simp [hne2, g2], put_keeps (keepsNx hk) hk⟩, by omega, Wk.regs (by simp [w4])⟩
    · rw [if_pos ho] at hF
      simp [hS.P, ho, g2, hne2]
      exact fin (hk2 _ _) 12 n rfl (pl 12 (by omega) hF)
  · obtain rfl : n = c.windows.length := by omega
    simp [winsE] at hF
    have hF : firstBadI (noWin c) c.parts 0 = windowsE c := hF
    simp [hS.P]
    refine AWp.loop (S := Nat) (fun n => n ≤ c.parts.length ∧ firstBadI (noWin c) (c.parts.drop n) n = windowsE c)
      (fun n => [(1, .ptr H.nx 0 0 0), (2, .ptr (H.nx + 1) 0 0 0), (5, .int .i64 n)]) (fun _ => K) (fun n => c.parts.length - n) 0 ⟨Nat.zero_le _, by simp [hF]⟩ (Wk.regs (by simp)) fun n hs => ?_
    obtain ⟨hn, hF⟩ := hs
    refine aC_sound (lv := []) _ _ _ _ ?_
    simp [hS.P, hg]
    refine aCond_dec (fun hlt => ?_) (fun hge => ?_)
    · obtain ⟨x, hx⟩ : ∃ x, c.parts[n]? = some x := ⟨c.parts[n], List.getElem?_eq_getElem hlt⟩
      rw [firstBadI_drop hx] at hF
      simp [hS.P, hg]
      refine (rcount_spec hS c hc n).go ?_
      cases hh : hasW c n with
      | true =>
        have hb : noWin c n x = 0 := by simp [noWin, hh]
        rw [hb, if_pos rfl] at hF
        have hc0 : ¬ cntW c.windows n = 0 := fun h => by rw [(cntW_has c n).1 h] at hh; cases hh
        simp [hS.P, hc0]
        exact ⟨n + 1, ⟨hlt, hF⟩, by omega, Wk.regs (by simp [wrap1 (n := n) (by omega)])⟩
      | false =>
        have hb : noWin c n x = 17 := by simp [noWin, hh]
        rw [hb, if_neg (by omega)] at hF
        have hc0 : cntW c.windows n = 0 := (cntW_has c n).2 hh
        simp [hS.P, hc0, g2]
        exact fin (put_keeps f1 hk) 17 n rfl (by rw [← hF, encPR_at _ _ (by omega)]; rfl)
    · obtain rfl : n = c.parts.length := by omega
      simp [firstBadI] at hF
      simp
      refine (none14_spec hS).go ?_
      simp [hS.P, g2]
      exact fin (put_keeps f1 hk) 0 (-1) rfl (by rw [← hF]; exact encPR_none.symm)
end Go.Proofs.YtndoembhbfiokaaGreatDoor.Am
set_option linter.unusedVariables false
set_option linter.unusedSimpArgs false
namespace Go.Proofs.YtndoembhbfiokaaGreatDoor.Am
open Go.RowKit Go.Proofs

def rlinksE (c : ConfD) : PE := if 16 < c.links.length then .bare 11 else firstBad (linkBad c) c.links 0
theorem linksE_eq (c : ConfD) : linksE c = (rlinksE c).or (mobE c) := by
  unfold linksE rlinksE
  split <;> rfl
theorem rlinks_spec {X : Ctx} (hS : Sent X) (c : ConfD) (hc : c.Small) : ACalc X 116 [encConf c] (encPR (rlinksE c)) := by
  intro H
  refine acalls' (N := 102) (rs := [.cell 2 147]) [] (by rw [hS.P]; exact Tryz.func116) rfl rfl rfl (by decide) (by simp) ?_
  obtain ⟨l1, l2, l3, l4, l5⟩ := id hc
  have f1 : H.get (H.nx + 1) = .free := AH.free_add H 1
  have fin : ∀ {K : AH} {v : AV}, (∀ i, H.get i ≠ .free → K.get i = H.get i) → ∀ (p : Int) (q : Int), v = encR p q → encR p q = encPR (rlinksE c) → Leave X H v K fun v' H' => v' = encPR (rlinksE c) ∧ H' = H := fun hk p q hv he => by
    subst hv; exact Leave.data hk (by simp) ⟨he, rfl⟩
  simp [entryR, hS.P]
  refine aCond_mk (fun h1 => ?_) (fun h1 => ?_)
  · simp at h1
    simp [hS.P]
    refine (bad14_spec hS 11).go ?_
    simp [hS.P]
    exact fin (put_keeps f1 (put_keeps (by simp) (keeps_refl H))) 11 (-1) rfl (by simp only [rlinksE]; rw [if_pos (by omega), encPR_bare]; rfl)
  simp at h1
  have hE : rlinksE c = firstBad (linkBad c) c.links 0 := by simp only [rlinksE]; rw [if_neg (by omega)]
  simp [hS.P]
  refine AWp.loop (S := Nat × AH) (fun s => s.1 ≤ c.links.length ∧ firstBad (linkBad c) (c.links.drop s.1) s.1 = rlinksE c ∧ s.2.get H.nx = .row [encConf c] 6 0 ∧ s.2.get (H.nx + 1) = .row [.agg [.int .i64 0, .int .i64 0]] 2 0 ∧ ∀ i, H.get i ≠ .free → s.2.get i = H.get i)
    (fun s => [(1, .ptr H.nx 0 0 0), (2, .ptr (H.nx + 1) 0 0 0), (3, .int .i64 s.1)]) (fun s => s.2) (fun s => c.links.length - s.1) (0, _) ⟨Nat.zero_le _, by simp [hE], by simp, by simp, put_keeps f1 (put_keeps (by simp) (keeps_refl H))⟩ (Wk.regs (by simp)) fun s hs => ?_
  obtain ⟨n, K⟩ := s
  obtain ⟨hn, hF, hg, g2, hk⟩ := hs
  simp only at hn hF hk hg g2
  have hne : ¬ H.nx = K.nx := fun h => by have := AH.lt_nx (AH.ne_free hg); omega
  have hne2 : ¬ H.nx + 1 = K.nx := fun h => by have := AH.lt_nx (AH.ne_free g2); omega
  refine aC_sound (lv := []) _ _ _ _ ?_
  simp [hS.P, hg]
  refine aCond_dec (fun hlt => ?_) (fun hge => ?_)
  · obtain ⟨x, hx⟩ : ∃ x, c.links[n]? = some x := ⟨c.links[n], List.getElem?_eq_getElem hlt⟩
    rw [firstBad_drop hx] at hF
    have hk2 : ∀ t t2, ∀ i, H.get i ≠ .free → ((K.put K.nx t).put (H.nx + 1) t2).get i = H.get i := fun t t2 => put_keeps f1 (put_keeps (keepsNx hk) hk)
    have done : ∀ b : Nat, linkBad c x = b → b ≠ 0 → encR b n = encPR (rlinksE c) := fun b hb h0 => by rw [hb, if_neg h0] at hF; rw [← hF, encPR_at _ _ h0]
    have leave12 : linkBad c x = 12 → encR 12 n = encPR (rlinksE c) := fun h => done 12 h (by omega)
    simp [hS.P, hx, hg, hne, hne2]
    refine aGuard_decf (fun a1 => ?_) (fun a1 => ?_)
    · have hs : ¬ inParts c x.src := fun h => by have := h.1; omega
      simp [a1, hS.P, g2, hne2]
      exact fin (hk2 _ _) 12 n rfl (leave12 (by simp [linkBad, hs]))
    simp [a1, hS.P, hg, hne]
    refine aGuard_decf (fun a2 => ?_) (fun a2 => ?_)
    · have hd : ¬ inParts c x.dst := fun h => by have := h.1; omega
      simp [a2, hS.P, g2, hne2]
      exact fin (hk2 _ _) 12 n rfl (leave12 (by simp [linkBad, hd]))
    simp [a2, hS.P, hg, hne]
    refine (rowner_spec hS c x.src).go ?_
    by_cases hs : inParts c x.src
    · have hs' : -1 ≤ x.src ∧ x.src < c.parts.length := ⟨by have := hs.1; omega, hs.2⟩
      simp [hS.P, a1, a2, hs', hg, hne]
      refine (rowner_spec hS c x.dst).go ?_
      by_cases hd : inParts c x.dst
      · have hd' : -1 ≤ x.dst ∧ x.dst < c.parts.length := ⟨by have := hd.1; omega, hd.2⟩
        simp [hS.P, a1, a2, hs', hd', hg, hne]
        refine aCond_dec (fun he => ?_) (fun he => ?_)
        · simp [hS.P, g2, hne2]
          exact fin (hk2 _ _) 12 n rfl (leave12 (by simp [linkBad, he]))
        obtain ⟨a, ha⟩ := Int.eq_ofNat_of_zero_le hs.1
        obtain ⟨b, hb⟩ := Int.eq_ofNat_of_zero_le hd.1
        have hal : a < c.parts.length := by have := hs.2; omega
        have hbl : b < c.parts.length := by have := hd.2; omega
        have pa : partAt c x.src = c.parts[a] := by simp [partAt, ha, hal]
        have pb : partAt c x.dst = c.parts[b] := by simp [partAt, hb, hbl]
        have b8 : (c.parts[a].mobile = true ∨ c.parts[b].mobile = true) → linkBad c x = 8 := fun h => by
          simp only [linkBad, pa, pb]
          rw [if_neg (fun h' => h'.elim (fun h' => h' hs) fun h' => h'.elim (fun h' => h' hd) he), if_pos h]
        simp [hS.P, hg, hne, ha, hb, hal, hbl]
        cases hma : c.parts[a].mobile with
        | true =>
          simp [hS.P, hma, g2, hne2]
          exact fin (hk2 _ _) 8 n rfl (done 8 (b8 (.inl hma)) (by omega))
        | false =>
          simp [hS.P, hma, hg, hne, hb, hbl]
          cases hmb : c.parts[b].mobile with
          | true =>
            simp [hS.P, hmb, g2, hne2]
            exact fin (hk2 _ _) 8 n rfl (done 8 (b8 (.inr hmb)) (by omega))
          | false =>
            have b7 : linkBad c x = if (kindAt c.parts[a] x.out = 2 ∨ kindAt c.parts[a] x.out = 4) ∧ (kindAt c.parts[b] x.inn = 1 ∨ kindAt c.parts[b] x.inn = 3) then 0 else 7 := by
              simp only [linkBad, pa, pb]
              rw [if_neg (fun h' => h'.elim (fun h' => h' hs) fun h' => h'.elim (fun h' => h' hd) he), if_neg (by simp [hma, hmb]), isPort_kind _ _ _ _ (by omega) (by omega), isPort_kind _ _ _ _ (by omega) (by omega)]
              by_cases p1 : kindAt c.parts[a] x.out = 2 ∨ kindAt c.parts[a] x.out = 4 <;> by_cases p2 : kindAt c.parts[b] x.inn = 1 ∨ kindAt c.parts[b] x.inn = 3 <;> simp [p1, p2]
            simp [hS.P, hmb]
            rw [aC_draw (hc := by kernel_rfl)]
            simp [hS.P, hg, hne, ha, hal]
            refine (rkind_spec hS c a x.out hal).call ?_
            simp [hS.P, hg, hne, hb, hbl]
            refine (rkind_spec hS c b x.inn hbl).call ?_
            generalize kindAt c.parts[a] x.out = ka at b7 ⊢
            generalize kindAt c.parts[b] x.inn = kb at b7 ⊢
            simp [hS.P]
            refine aIf_mk (chkH_reads (by simp)) ?_
            have good : (ka = 2 ∨ ka = 4) ∧ (kb = 1 ∨ kb = 3) → firstBad (linkBad c) (c.links.drop (n + 1)) (n + 1) = rlinksE c := fun h => by rw [if_pos h] at b7; rw [b7, if_pos rfl] at hF; exact hF
            have bad7 : ¬ ((ka = 2 ∨ ka = 4) ∧ (kb = 1 ∨ kb = 3)) → encR 7 n = encPR (rlinksE c) := fun h => by rw [if_neg h] at b7; exact done 7 b7 (by omega)
            have up : (∀ K' : AH, True) := fun _ => trivial
            by_cases k1 : ka = 2
            · by_cases m1 : kb = 1
              · simp [hS.P, k1, m1]
                exact ⟨n + 1, _, ⟨hlt, good (by omega), by simp [hne, hg], by simp [hne2, g2], put_keeps (keepsNx hk) hk⟩, by omega, Wk.regs (by simp [wrap1 (n := n) (by omega)])⟩
              · by_cases m2 : kb = 3
                · simp [hS.P, k1, m2]
                  exact ⟨n + 1, _, ⟨hlt, good (by omega), by simp [hne, hg], by simp [hne2, g2], put_keeps (keepsNx hk) hk⟩, by omega, Wk.regs (by simp [wrap1 (n := n) (by omega)])⟩
                · simp [hS.P, k1, m1, m2, g2, hne2]
                  exact fin (hk2 _ _) 7 n rfl (bad7 (by omega))
            · by_cases k2 : ka = 4
              · by_cases m1 : kb = 1
                · simp [hS.P, k2, m1]
                  exact ⟨n + 1, _, ⟨hlt, good (by omega), by simp [hne, hg], by simp [hne2, g2], put_keeps (keepsNx hk) hk⟩, by omega, Wk.regs (by simp [wrap1 (n := n) (by omega)])⟩
                · by_cases m2 : kb = 3
                  · simp [hS.P, k2, m2]
                    exact ⟨n + 1, _, ⟨hlt, good (by omega), by simp [hne, hg], by simp [hne2, g2], put_keeps (keepsNx hk) hk⟩, by omega, Wk.regs (by simp [wrap1 (n := n) (by omega)])⟩
                  · simp [hS.P, k2, m1, m2, g2, hne2]
                    exact fin (hk2 _ _) 7 n rfl (bad7 (by omega))
              · simp [hS.P, k1, k2, g2, hne2]
                exact fin (hk2 _ _) 7 n rfl (bad7 (by omega))
      · have hd' : ¬ (-1 ≤ x.dst ∧ x.dst < c.parts.length) := fun h => hd ⟨by omega, h.2⟩
        simp [hS.P, a1, a2, hs', hd', g2, hne2]
        exact fin (hk2 _ _) 12 n rfl (leave12 (by simp [linkBad, hd]))
    · have hs' : ¬ (-1 ≤ x.src ∧ x.src < c.parts.length) := fun h => hs ⟨by omega, h.2⟩
      simp [hS.P, a1, a2, hs', g2, hne2]
      exact fin (hk2 _ _) 12 n rfl (leave12 (by simp [linkBad, hs]))
  · obtain rfl : n = c.links.length := by omega
    simp [firstBad] at hF
    simp
    refine (none14_spec hS).go ?_
    simp [hS.P, g2]
    exact fin (put_keeps f1 hk) 0 (-1) rfl (by rw [← hF]; exact encPR_none.symm)
end Go.Proofs.YtndoembhbfiokaaGreatDoor.Am
