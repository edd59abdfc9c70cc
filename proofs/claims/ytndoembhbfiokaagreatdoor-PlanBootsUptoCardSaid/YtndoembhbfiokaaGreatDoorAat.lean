/- The logic and the contracts that the laws stand on, part 20. -/
import Derived.Test.YtndoembhbfiokaaGreatDoorAas
set_option linter.unusedVariables false
set_option linter.unusedSimpArgs false
namespace Go.Proofs.YtndoembhbfiokaaGreatDoor.Am
open Go.RowKit Go.Proofs

/-! ### The writer's short calls -/
theorem wu8_spec {X : Ctx} (hS : Sent X) (iw ib : Nat) (s : WSt) (n : Int) (hl : s.data.length + 1 ≤ 1073741824) : WTurn X 88 iw ib [.ptr iw 0 0 0, .int .i64 n] s (s.num n 1) := by
  intro H hW
  refine acalls' (N := 7) (rs := []) [] (by rw [hS.P]; exact Tryz.func88) rfl rfl rfl (by decide) (by simp) ?_
  simp [entryR, hS.P]
  refine (num_spec hS iw ib s n 1 (.inl rfl) (by omega)).go hW ?_
  simp
  exact Leave.stay ⟨rfl, rfl⟩
theorem wu32_spec {X : Ctx} (hS : Sent X) (iw ib : Nat) (s : WSt) (n : Int) (hl : s.data.length + 4 ≤ 1073741824) : WTurn X 58 iw ib [.ptr iw 0 0 0, .int .i64 n] s (s.num n 4) := by
  intro H hW
  refine acalls' (N := 7) (rs := []) [] (by rw [hS.P]; exact Tryz.func58) rfl rfl rfl (by decide) (by simp) ?_
  simp [entryR, hS.P]
  refine (num_spec hS iw ib s n 4 (.inr (.inr rfl)) (by omega)).go hW ?_
  simp
  exact Leave.stay ⟨rfl, rfl⟩
theorem wraw_spec {X : Ctx} (hS : Sent X) (iw ib : Nat) (s : WSt) (b : List UInt8) (x : AV) (hx : x = .fsl (b.map encB) ∨ x = .csl (b.map encB)) (hl : s.data.length + b.length ≤ 1073741824) : WTurn X 56 iw ib [.ptr iw 0 0 0, x] s (s.put b) := by
  intro H hW
  refine acalls' (N := 7) (rs := []) [] (by rw [hS.P]; exact Tryz.func56) rfl rfl rfl (by decide) (by simp) ?_
  simp [entryR, hS.P]
  refine (wput_spec hS iw ib s b x hx hl).go hW ?_
  simp
  exact Leave.stay ⟨rfl, rfl⟩
def flagB (b : Bool) : List UInt8 := [if b = true then 1 else 0]
theorem wflag_spec {X : Ctx} (hS : Sent X) (iw ib : Nat) (s : WSt) (b : Bool) (hl : s.data.length + 1 ≤ 1073741824) : WTurn X 59 iw ib [.ptr iw 0 0 0, .bool b] s (s.put (flagB b)) := by
  intro H hW
  refine acalls' (N := 11) (rs := []) [] (by rw [hS.P]; exact Tryz.func59) rfl rfl rfl (by decide) (by simp) ?_
  have e1 : AV.csl [.int .u8 1] = .csl ((flagB true).map encB) := rfl
  have e0 : AV.csl [.int .u8 0] = .csl ((flagB false).map encB) := rfl
  cases b with
  | true =>
    simp [entryR, hS.P]
    refine (wput_spec hS iw ib s (flagB true) _ (.inr e1) (by simp [flagB]; omega)).go hW ?_
    simp
    exact Leave.stay ⟨rfl, rfl⟩
  | false =>
    simp [entryR, hS.P]
    refine (wput_spec hS iw ib s (flagB false) _ (.inr e0) (by simp [flagB]; omega)).go hW ?_
    simp
    exact Leave.stay ⟨rfl, rfl⟩

/-! ### The check sum -/
def enc32 (r : BitVec 32) : AV := .int .u32 r.toNat
@[simp] theorem enc32_data (r : BitVec 32) : (enc32 r).Data := by simp [enc32]
@[simp] theorem enc32_cells (r : BitVec 32) : (enc32 r).cells = [enc32 r] := rfl
@[simp] theorem enc32_good (r : BitVec 32) : (enc32 r).good = true := rfl
@[simp] theorem enc32_one (r : BitVec 32) : (enc32 r).one = true := rfl
theorem wrapu32_mod (n : Int) : IntKind.u32.wrap n = n % 4294967296 := by
  simp [IntKind.wrap, IntKind.bits, IntKind.signed]
theorem wrapu32_bv (r : BitVec 32) : IntKind.u32.wrap (r.toNat : Int) = r.toNat := by
  rw [wrapu32_mod]; have := r.isLt; omega
theorem ofInt_bv (r : BitVec 32) : BitVec.ofInt 32 (r.toNat : Int) = r := by
  apply BitVec.eq_of_toNat_eq
  have := r.isLt
  simp
def stepB (r : BitVec 32) : BitVec 32 := if r &&& 1#32 = 1#32 then (r >>> 1) ^^^ 3988292384#32 else r >>> 1
theorem step_spec {X : Ctx} (hS : Sent X) (r : BitVec 32) : ACalc X 154 [enc32 r] (enc32 (stepB r)) := by
  intro H
  refine acalls' (N := 11) (rs := [.tmp 2]) [] (by rw [hS.P]; exact Tryz.func154) rfl rfl rfl (by decide) (by simp) ?_
  simp [entryR, hS.P, enc32]
  have hr := r.isLt
  have hb : IntKind.u32.bits = 32 := rfl
  have e1 : IntKind.u32.wrap ((r.toNat % 2 ^ IntKind.u32.bits &&& 1 % 2 ^ IntKind.u32.bits : Nat) : Int) = ((r.toNat % 2 : Nat) : Int) := by
    rw [hb, wrapu32_mod, Nat.mod_eq_of_lt hr, show 1 % 2 ^ 32 = 1 from rfl, Nat.and_one_is_mod]; omega
  have e2 : (r &&& 1#32 = 1#32) ↔ r.toNat % 2 = 1 := by
    rw [← BitVec.toNat_inj, BitVec.toNat_and]; simp [Nat.and_one_is_mod]
  rw [e1]
  have e3 : ((r.toNat : Int).fdiv 2 % 4294967296).toNat = r.toNat / 2 := by
    rw [Int.fdiv_eq_ediv_of_nonneg _ (by omega)]; omega
  have e4 : (r.toNat : Int).fdiv 2 = ((r.toNat / 2 : Nat) : Int) := by
    rw [Int.fdiv_eq_ediv_of_nonneg _ (by omega)]; omega
  by_cases h : r.toNat % 2 = 1
  · have h' : (r.toNat : Int) % 2 = 1 := by omega
    have e5 : (stepB r).toNat = r.toNat / 2 ^^^ 3988292384 := by
      unfold stepB; rw [if_pos (e2.2 h), BitVec.toNat_xor, BitVec.toNat_ushiftRight, Nat.shiftRight_eq_div_pow]; rfl
    simp [h', hS.P, hb]
    refine Leave.data (keeps_refl _) (by simp) ⟨?_, rfl⟩
    rw [e3, ← e5, wrapu32_bv, enc32]
  · have h' : ¬ (r.toNat : Int) % 2 = 1 := by omega
    have e5 : (stepB r).toNat = r.toNat / 2 := by
      unfold stepB; rw [if_neg (fun k => h (e2.1 k)), BitVec.toNat_ushiftRight, Nat.shiftRight_eq_div_pow]
    simp [h', hS.P, hb]
    refine Leave.data (keeps_refl _) (by simp) ⟨?_, rfl⟩
    rw [e4, ← e5]; rfl
/-- What eight steps make of a byte. -/
def stepsB (r : BitVec 32) : Nat → BitVec 32
  | 0 => r
  | k + 1 => stepB (stepsB r k)
def tabB (i : Nat) : BitVec 32 := stepsB (BitVec.ofNat 32 i) 8
def tabL (n : Nat) : List AV := (List.range n).map (fun i => enc32 (tabB i)) ++ List.replicate (256 - n) (.int .u32 0)
theorem tabL_len {n : Nat} (h : n ≤ 256) : (tabL n).length = 256 := by simp [tabL]; omega
theorem tabL_set {n : Nat} (h : n < 256) : (tabL n).take n ++ [enc32 (tabB n)] ++ (tabL n).drop (n + 1) = tabL (n + 1) := by
  have h1 : (tabL n).take n = (List.range n).map (fun i => enc32 (tabB i)) := by
    simp [tabL]
  have h2 : (tabL n).drop (n + 1) = List.replicate (256 - (n + 1)) (.int .u32 0) := by
    apply List.ext_getElem?; intro j
    simp [tabL, List.getElem?_append, List.getElem?_replicate, List.getElem?_range]
    have : ¬ n + 1 + j < n := by omega
    simp [this]
    congr 1
    apply propext; omega
  rw [h1, h2, tabL, List.range_succ]
  simp
def plTab : List (Nat × Nat) := (List.range 256).map fun i => (i, 1)
theorem plcTab : plcOf Tryz.prog 220 = some (plTab, tabL 0) := by kernel_rfl
@[simp] theorem tabL_len' (n : Nat) (h : n ≤ 256) : (tabL n).length = 256 := tabL_len h
theorem table_spec {X : Ctx} (hS : Sent X) : ACalc X 151 [] (.eptr [.agg (tabL 256)] 0 0) := by
  intro H
  refine acalls' (N := 23) (rs := [.tmp 0]) [] (by rw [hS.P]; exact Tryz.func151) rfl rfl rfl (by decide) (by simp) ?_
  simp [-plc220, plcTab, entryR, hS.P]
  refine AWp.loop (S := Nat) (fun n => n ≤ 256) (fun n => [(1, .ptr H.nx 0 0 0), (6, .int .i64 n)]) (fun n => H.put H.nx (.row [.agg (tabL n)] 256 0)) (fun n => 256 - n) 0 (by omega) (Wk.regs (by simp)) fun n hn => ?_
  refine aC_sound (lv := []) _ _ _ _ ?_
  simp [hS.P]
  refine aCond_dec (fun hlt => ?_) (fun hge => ?_)
  · have hlt' : n < 256 := by omega
    have w1 : IntKind.u32.wrap (n : Int) = (BitVec.ofNat 32 n).toNat := by
      rw [wrapu32_mod, BitVec.toNat_ofNat]; omega
    simp [hS.P, w1]
    refine AWp.loop (S := Nat) (fun k => k ≤ 8) (fun k => [(1, .ptr H.nx 0 0 0), (2, .int .i64 n), (3, enc32 (stepsB (BitVec.ofNat 32 n) k)), (6, .int .i64 n), (11, .int .i64 k)]) (fun _ => H.put H.nx (.row [.agg (tabL n)] 256 0)) (fun k => 8 - k) 0 (by omega) (Wk.regs (by simp [stepsB, enc32, w1])) fun k hk => ?_
    refine aC_sound (lv := []) _ _ _ _ ?_
    simp [hS.P]
    refine aCond_dec (fun hlt2 => ?_) (fun hge2 => ?_)
    · simp [hS.P]
      refine (step_spec hS _).go ?_
      simp [hS.P]
      exact ⟨k + 1, by omega, by omega, Wk.regs (by simp [wrap1 (n := k) (by omega), stepsB])⟩
    · obtain rfl : k = 8 := by omega
      simp [hS.P, hlt', tabL_len' n hn]
      refine aIf_mk (by omega) ?_
      have hlen := tabL_len hn
      simp [hS.P, hlt', hlen]
      refine aIf_mk (by omega) ?_
      simp [hS.P, hlt', hlen]
      have hset := tabL_set hlt'
      rw [List.append_assoc, List.singleton_append] at hset
      have ht : enc32 (stepsB (BitVec.ofNat 32 n) 8) = enc32 (tabB n) := rfl
      rw [ht, hset]
      exact ⟨n + 1, by omega, by omega, Wk.regs (by simp [wrap1 (n := n) (by omega)])⟩
  · obtain rfl : n = 256 := by omega
    simp [hS.P]
    refine Leave.frz (AH.get_put_same _ _ _) (.ptr 0 0) ?_
    exact Leave.data (put_keeps (by simp) (put_keeps (by simp) (keeps_refl H))) (by simp [tabL]) ⟨rfl, rfl⟩
end Go.Proofs.YtndoembhbfiokaaGreatDoor.Am
set_option linter.unusedVariables false
set_option linter.unusedSimpArgs false
namespace Go.Proofs.YtndoembhbfiokaaGreatDoor.Am
open Go.RowKit Go.Proofs

def crcB (r : BitVec 32) (c : UInt8) : BitVec 32 := tabB ((r.toNat % 256) ^^^ c.toNat) ^^^ (r >>> 8)
def crcF (r : BitVec 32) (b : List UInt8) : BitVec 32 := b.foldl crcB r
theorem crcF_take {b : List UInt8} {n : Nat} {c : UInt8} (h : b[n]? = some c) (r : BitVec 32) : crcF r (b.take (n + 1)) = crcB (crcF r (b.take n)) c := by
  simp [crcF, List.take_add_one, h]
theorem tabL_get {n : Nat} (h : n < 256) : (tabL 256)[n]? = some (enc32 (tabB n)) := by
  simp [tabL, h]
theorem xor_lt256 {a b : Nat} (ha : a < 256) (hb : b < 256) : a ^^^ b < 256 := Nat.xor_lt_two_pow (n := 8) ha hb
theorem move_spec {X : Ctx} (hS : Sent X) (r : BitVec 32) (b : List UInt8) (hl : b.length ≤ 1073741824) : ACalc X 141 [enc32 r, .fsl (b.map encB)] (enc32 (crcF r b)) := by
  intro H
  refine acalls' (N := 32) (rs := [.tmp 4]) [] (by rw [hS.P]; exact Tryz.func141) rfl rfl rfl (by decide) (by simp) ?_
  simp [entryR, hS.P]
  refine aCond_dec (fun h0 => ?_) (fun h0 => ?_)
  · subst h0
    simp [hS.P]
    exact Leave.data (keeps_refl _) (by simp) ⟨rfl, rfl⟩
  simp [hS.P]
  refine (table_spec hS).go ?_
  simp [hS.P]
  refine AWp.loop (S := Nat) (fun n => n ≤ b.length) (fun n => [(0, enc32 (crcF r (b.take n))), (5, .eptr [.agg (tabL 256)] 0 0), (13, .fsl (b.map encB)), (14, .int .i64 b.length), (15, .int .i64 n)]) (fun _ => H) (fun n => b.length - n) 0 (Nat.zero_le _) (Wk.regs (by simp [crcF])) fun n hn => ?_
  refine aC_sound (lv := []) _ _ _ _ ?_
  simp [hS.P]
  refine aCond_dec (fun hlt => ?_) (fun hge => ?_)
  · obtain ⟨c, hc⟩ : ∃ c, b[n]? = some c := ⟨b[n], List.getElem?_eq_getElem (by omega)⟩
    generalize hr : crcF r (b.take n) = R
    have hRl := R.isLt
    have hcl := c.toNat_lt
    have hx := xor_lt256 (show R.toNat % 256 < 256 by omega) (show c.toNat < 256 by omega)
    have e1 : IntKind.u8.wrap (((IntKind.u8.wrap (R.toNat : Int) % 2 ^ IntKind.u8.bits).toNat ^^^ c.toNat % 2 ^ IntKind.u8.bits : Nat) : Int) = ((R.toNat % 256 ^^^ c.toNat : Nat) : Int) := by
      have hb : IntKind.u8.bits = 8 := rfl
      have h1 : (IntKind.u8.wrap (R.toNat : Int) % 2 ^ IntKind.u8.bits).toNat = R.toNat % 256 := by rw [wrapu8_mod, hb]; omega
      have h2 : c.toNat % 2 ^ IntKind.u8.bits = c.toNat := by rw [hb]; omega
      rw [h1, h2, wrapu8_mod]; omega
    have hx' : ((R.toNat % 256 ^^^ c.toNat : Nat) : Int) < 256 := by omega
    have hg := tabL_get hx
    have hb : IntKind.u32.bits = 32 := rfl
    simp [hS.P, hc, enc32, encB, e1]
    refine aIf_mk (by omega) ?_
    have e2 : ((R.toNat : Int).fdiv 256 % 4294967296).toNat = R.toNat / 256 := by
      rw [Int.fdiv_eq_ediv_of_nonneg _ (by omega)]; omega
    have e4 : (tabB (R.toNat % 256 ^^^ c.toNat)).toNat % 4294967296 = (tabB (R.toNat % 256 ^^^ c.toNat)).toNat := Nat.mod_eq_of_lt (tabB (R.toNat % 256 ^^^ c.toNat)).isLt
    have e3 : (crcB R c).toNat = (tabB (R.toNat % 256 ^^^ c.toNat)).toNat ^^^ (R.toNat / 256) := by
      unfold crcB; rw [BitVec.toNat_xor, BitVec.toNat_ushiftRight, Nat.shiftRight_eq_div_pow]
    simp [hS.P, hg, hb]
    simp [enc32, hb, e2, ← e3, wrapu32_bv]
    refine ⟨n + 1, by omega, by omega, Wk.regs ?_⟩
    rw [crcF_take hc, hr]
    simp [wrap1 (n := n) (by omega), enc32, e4, ← e3, wrapu32_bv]
  · obtain rfl : n = b.length := by omega
    simp [hS.P]
    exact Leave.data (keeps_refl _) (by simp) ⟨by simp, rfl⟩
def moreB (s : BitVec 32) (b : List UInt8) : BitVec 32 := ~~~ (crcF (~~~ s) b)
theorem not_bv (r : BitVec 32) : (~~~ r).toNat = 4294967295 ^^^ r.toNat := by
  rw [← BitVec.allOnes_xor, BitVec.toNat_xor, BitVec.toNat_allOnes]
theorem not_av (r : BitVec 32) : IntKind.u32.wrap ((((if IntKind.u32.signed = true then -1 else IntKind.u32.max) % 2 ^ IntKind.u32.bits).toNat ^^^ r.toNat % 2 ^ IntKind.u32.bits : Nat) : Int) = (~~~ r).toNat := by
  have h1 : ((if IntKind.u32.signed = true then (-1 : Int) else IntKind.u32.max) % 2 ^ IntKind.u32.bits).toNat = 4294967295 := by decide
  have h2 : r.toNat % 2 ^ IntKind.u32.bits = r.toNat := Nat.mod_eq_of_lt r.isLt
  rw [h1, h2, ← not_bv, wrapu32_bv]
theorem more_spec {X : Ctx} (hS : Sent X) (r : BitVec 32) (b : List UInt8) (hl : b.length ≤ 1073741824) : ACalc X 126 [enc32 r, .fsl (b.map encB)] (enc32 (moreB r b)) := by
  intro H
  refine acalls' (N := 10) (rs := [.tmp 4]) [] (by rw [hS.P]; exact Tryz.func126) rfl rfl rfl (by decide) (by simp) ?_
  simp [entryR, hS.P, enc32, not_av, -BitVec.toNat_not]
  refine (move_spec hS (~~~ r) b hl).go ?_
  simp [enc32, not_av, -BitVec.toNat_not]
  exact Leave.data (keeps_refl _) (by simp) ⟨rfl, rfl⟩
def sumB (b : List UInt8) : BitVec 32 := moreB 0#32 b
theorem sum32_spec {X : Ctx} (hS : Sent X) (b : List UInt8) (hl : b.length ≤ 1073741824) : ACalc X 98 [.fsl (b.map encB)] (enc32 (sumB b)) := by
  intro H
  refine acalls' (N := 5) (rs := [.tmp 2]) [] (by rw [hS.P]; exact Tryz.func98) rfl rfl rfl (by decide) (by simp) ?_
  simp [entryR, hS.P]
  refine (more_spec hS 0#32 b hl).go ?_
  simp [enc32]
  exact Leave.data (keeps_refl _) (by simp) ⟨rfl, rfl⟩
/-- The sum's four bytes, the lowest first. -/
def laidB (s : BitVec 32) : List UInt8 := [UInt8.ofNat (s.toNat % 256), UInt8.ofNat (s.toNat / 256 % 256), UInt8.ofNat (s.toNat / 65536 % 256), UInt8.ofNat (s.toNat / 16777216 % 256)]
theorem laid_spec {X : Ctx} (hS : Sent X) (r : BitVec 32) : ACalc X 97 [enc32 r] (.csl ((laidB r).map encB)) := by
  intro H
  refine acalls' (N := 15) (rs := [.tmp 2]) [] (by rw [hS.P]; exact Tryz.func97) rfl rfl rfl (by decide) (by simp) ?_
  have hb : IntKind.u32.bits = 32 := rfl
  have hr := r.isLt
  have w : ∀ k : Nat, 0 < k → AV.int .u8 (IntKind.u8.wrap ((r.toNat : Int).fdiv k)) = encB (UInt8.ofNat (r.toNat / k % 256)) := fun k hk => by
    rw [encB_wrap]
    congr 2
    rw [Int.fdiv_eq_ediv_of_nonneg _ (by omega)]; omega
  have w0 : AV.int .u8 (IntKind.u8.wrap (r.toNat : Int)) = encB (UInt8.ofNat (r.toNat % 256)) := by
    rw [encB_wrap]
    congr 2
  have w1 : AV.int .u8 (IntKind.u8.wrap ((r.toNat : Int).fdiv 256)) = encB (UInt8.ofNat (r.toNat / 256 % 256)) := w 256 (by omega)
  have w2 : AV.int .u8 (IntKind.u8.wrap ((r.toNat : Int).fdiv 65536)) = encB (UInt8.ofNat (r.toNat / 65536 % 256)) := w 65536 (by omega)
  have w3 : AV.int .u8 (IntKind.u8.wrap ((r.toNat : Int).fdiv 16777216)) = encB (UInt8.ofNat (r.toNat / 16777216 % 256)) := w 16777216 (by omega)
  simp [entryR, hS.P, enc32, hb]
  rw [w0, w1, w2, w3]
  exact Leave.data (keeps_refl _) (by simp) ⟨rfl, rfl⟩
theorem Leave.leH {X : Ctx} {H0 H' : AH} {v v' : AV} {Q : AV → AH → Prop} (hle : LeH H' v v') (h : Leave X H0 v' H' Q) : Leave X H0 v H' Q :=
  fun μ0 ρ w0 wa μ w c hW0 hx hW hv => h μ0 ρ w0 wa μ w c hW0 hx hW (hle _ _ _ _ hv)
/-- A copy in memory that is the caller's to write. -/
theorem bclone_live {X : Ctx} (hS : Sent X) (l : List UInt8) (hl : l.length ≤ 1073741824) (H : AH) : ACalls X 96 [.fsl (l.map encB)] H fun v H' => v = .sl H.nx 0 0 l.length ∧ H' = H.put H.nx (.row (l.map encB) 1 0) := by
  refine acalls (N := 8) (rs := [.tmp 2]) (by rw [hS.P]; exact Tryz.func96) rfl rfl rfl (by decide) (by simp) ?_
  refine AWp.seq (aC_sound (lv := []) _ _ _ _ ?_)
  simp [entryR]
  refine AWp.seq (AWp.isNil (.fsl (l.map encB)) rfl rfl (e := 5) (by rw [hS.P]; exact Tryz.underlying28) (by decide) (by decide) fun b hb => aC_sound (lv := []) _ _ _ _ ?_)
  cases b with
  | true =>
    obtain rfl : l = [] := by
      cases l with
      | nil => rfl
      | cons x l => simp at hb
    simp
    refine Leave.mat0 1 (Leave.leH (v' := .sl H.nx 0 0 0) (LeH.mat (by simp)) ?_)
    exact Leave.stay ⟨rfl, rfl⟩
  | false =>
    simp
    refine aC_sound (lv := [7]) _ _ _ _ ?_
    simp [hS.P, show l.length ≤ 140737488355328 by omega]
    exact Leave.stay ⟨rfl, rfl⟩
theorem seal_spec {X : Ctx} (hS : Sent X) (b : List UInt8) (hl : b.length ≤ 1073741824) : ACalc X 60 [.fsl (b.map encB)] (encBytes (b ++ laidB (sumB b))) := by
  intro H
  refine acalls' (N := 9) (rs := [.tmp 2]) [8] (by rw [hS.P]; exact Tryz.func60) rfl rfl rfl (by decide) (by simp) ?_
  simp [entryR, hS.P]
  refine (bclone_live hS b hl H).mono ?_
  rintro _ _ ⟨rfl, rfl⟩
  simp [hS.P]
  refine (sum32_spec hS b hl).go ?_
  simp [hS.P]
  refine (laid_spec hS (sumB b)).go ?_
  have h4 : (laidB (sumB b)).length = 4 := rfl
  simp [hS.P, h4]
  refine aIf_mk (by omega) ?_
  simp [hS.P, h4]
  refine Leave.sl (AH.get_put_same _ _ _) (by simp [h4]) ?_
  exact Leave.data (put_keeps (by simp) (put_keeps (by simp) (keeps_refl H))) (by rw [← List.map_append]; exact encBytes_data _) ⟨by simp [encBytes], rfl⟩
end Go.Proofs.YtndoembhbfiokaaGreatDoor.Am
set_option linter.unusedVariables false
set_option linter.unusedSimpArgs false
namespace Go.Proofs.YtndoembhbfiokaaGreatDoor.Am
open Go.RowKit Go.Proofs

/-- A call that turns a writer's state, in one heap. -/
def WAt (X : Ctx) (f : FuncId) (args : List AV) (H : AH) (iw ib : Nat) (t : WSt) : Prop := ACalls X f args H fun v H' => v = .tup [] ∧ H' = H.upd (wwr iw ib t)
theorem WAt.go {X : Ctx} {f : FuncId} {args : List AV} {H : AH} {iw ib : Nat} {t : WSt} (h : WAt X f args H iw ib t) {K : AV → AH → Prop} (hK : K (.tup []) (H.upd (wwr iw ib t))) : ACalls X f args H K :=
  h.mono fun v H' ⟨h1, h2⟩ => by subst h1 h2; exact hK
theorem wwr_other {H : AH} {iw ib i : Nat} {t : WSt} (h1 : i ≠ iw) (h2 : i ≠ ib) : (H.upd (wwr iw ib t)).get i = H.get i := by
  simp only [wwr, AH.upd_cons, upd_nil, AH.get_put, if_neg h1, if_neg h2]
theorem aConv_str {X : Ctx} {s d : TypeId} {l : List UInt8} {H : AH} {K : Hid Post} (h1 : X.P.underlying s = some .string) (e b : Nat) (h2 : slOf X.P d = some (e, 1, b)) (h3 : X.P.underlying e = some (.int .u8)) (k : K.out (.fsl (l.map encB)) [] []) : hConv X false s d (.str l) H (K := K) :=
  ⟨h1, .inr ⟨e, b, h2, h3, k⟩⟩
theorem rec1_spec {X : Ctx} (hS : Sent X) {H : AH} {iw ib i : Nat} {s : WSt} (hW : WS H iw ib s) (x : PageD) (hi : H.get i = .row [encPage x] 2 0) (n1 : i ≠ iw) (n2 : i ≠ ib) (hl : s.data.length + 1 + x.init.length ≤ 1073741824) :
    WAt X 87 [.ptr iw 0 0 0, .ptr i 0 0 0] H iw ib ((s.num x.rights 1).put x.init) := by
  refine acalls' (N := 12) (rs := []) [] (by rw [hS.P]; exact Tryz.func87) rfl rfl rfl (by decide) (by simp) ?_
  simp [entryR, hS.P, hi]
  refine (wu8_spec hS iw ib s x.rights (by omega)).go hW ?_
  have hi2 := (wwr_other (H := H) (t := s.num x.rights 1) n1 n2).trans hi
  simp [hS.P, hi2]
  have h1 := num_len s x.rights 1
  refine aConv_str (by rw [hS.P]; exact Tryz.underlying9) 5 1 (by rw [hS.P]; simp) (by rw [hS.P]; exact Tryz.underlying5) ?_
  simp [hS.P]
  refine (wraw_spec hS iw ib (s.num x.rights 1) x.init _ (.inl rfl) (by omega)).go (hW.upd _) ?_
  simp [hW.upd_upd]
  exact Leave.stay ⟨rfl, rfl⟩
theorem rec2_spec {X : Ctx} (hS : Sent X) {H : AH} {iw ib i : Nat} {s : WSt} (hW : WS H iw ib s) (x : ProcD) (hi : H.get i = .row [encProc x] 3 0) (n1 : i ≠ iw) (n2 : i ≠ ib) (hl : s.data.length + 6 ≤ 1073741824) :
    WAt X 89 [.ptr iw 0 0 0, .ptr i 0 0 0] H iw ib (((s.num x.entry 4).num x.prio 1).put (flagB x.auto)) := by
  refine acalls' (N := 15) (rs := []) [] (by rw [hS.P]; exact Tryz.func89) rfl rfl rfl (by decide) (by simp) ?_
  simp [entryR, hS.P, hi]
  refine (wu32_spec hS iw ib s x.entry (by omega)).go hW ?_
  have hi2 := fun t => (wwr_other (H := H) (t := t) n1 n2).trans hi
  simp [hS.P, hi2]
  have h1 := num_len s x.entry 4
  refine (wu8_spec hS iw ib (s.num x.entry 4) x.prio (by omega)).go (hW.upd _) ?_
  simp [hS.P, hW.upd_upd, hi2]
  have h2 := num_len (s.num x.entry 4) x.prio 1
  refine (wflag_spec hS iw ib ((s.num x.entry 4).num x.prio 1) x.auto (by omega)).go (hW.upd _) ?_
  simp [hW.upd_upd]
  exact Leave.stay ⟨rfl, rfl⟩
theorem rec3_spec {X : Ctx} (hS : Sent X) {H : AH} {iw ib i : Nat} {s : WSt} (hW : WS H iw ib s) (x : PortD) (hi : H.get i = .row [encPort x] 4 0) (n1 : i ≠ iw) (n2 : i ≠ ib) (hl : s.data.length + 4 ≤ 1073741824) :
    WAt X 90 [.ptr iw 0 0 0, .ptr i 0 0 0] H iw ib ((((s.num x.kind 1).num x.size 1).num x.depth 1).num x.refresh 1) := by
  refine acalls' (N := 19) (rs := []) [] (by rw [hS.P]; exact Tryz.func90) rfl rfl rfl (by decide) (by simp) ?_
  simp [entryR, hS.P, hi]
  refine (wu8_spec hS iw ib s x.kind (by omega)).go hW ?_
  have hi2 := fun t => (wwr_other (H := H) (t := t) n1 n2).trans hi
  simp [hS.P, hi2]
  have h1 := num_len s x.kind 1
  refine (wu8_spec hS iw ib _ x.size (by omega)).go (hW.upd _) ?_
  simp [hS.P, hW.upd_upd, hi2]
  have h2 := num_len (s.num x.kind 1) x.size 1
  refine (wu8_spec hS iw ib _ x.depth (by omega)).go (hW.upd _) ?_
  simp [hS.P, hW.upd_upd, hi2]
  have h3 := num_len ((s.num x.kind 1).num x.size 1) x.depth 1
  refine (wu8_spec hS iw ib _ x.refresh (by omega)).go (hW.upd _) ?_
  simp [hW.upd_upd]
  exact Leave.stay ⟨rfl, rfl⟩
theorem rec4_spec {X : Ctx} (hS : Sent X) {H : AH} {iw ib i : Nat} {s : WSt} (hW : WS H iw ib s) (p : PlanD) (hi : H.get i = .row [encPlan p] 7 0) (n1 : i ≠ iw) (n2 : i ≠ ib) (hl : s.data.length + 1 ≤ 1073741824) :
    WAt X 91 [.ptr iw 0 0 0, .ptr i 0 0 0] H iw ib (s.num p.events 1) := by
  refine acalls' (N := 7) (rs := []) [] (by rw [hS.P]; exact Tryz.func91) rfl rfl rfl (by decide) (by simp) ?_
  simp [entryR, hS.P, hi]
  refine (wu8_spec hS iw ib s p.events (by omega)).go hW ?_
  simp
  exact Leave.stay ⟨rfl, rfl⟩
def WSt.nums (s : WSt) (l : List Int) : WSt := l.foldl (fun s n => s.num n 1) s
theorem nums_len : ∀ (l : List Int) (s : WSt), (s.nums l).data.length ≤ s.data.length + l.length
  | [], s => by simp [WSt.nums]
  | n :: l, s => by
    have h1 := nums_len l (s.num n 1)
    have h2 := num_len s n 1
    simp only [WSt.nums, List.foldl_cons, List.length_cons] at h1 ⊢
    omega
theorem nums_take {l : List Int} {k : Nat} {n : Int} (h : l[k]? = some n) (s : WSt) : s.nums (l.take (k + 1)) = (s.nums (l.take k)).num n 1 := by
  simp [WSt.nums, List.take_add_one, h]
theorem rec5_spec {X : Ctx} (hS : Sent X) {H : AH} {iw ib i : Nat} {s : WSt} (hW : WS H iw ib s) (p : PlanD) (hi : H.get i = .row [encPlan p] 7 0) (n1 : i ≠ iw) (n2 : i ≠ ib) (hl : s.data.length + p.sems.length ≤ 1073741824) :
    WAt X 92 [.ptr iw 0 0 0, .ptr i 0 0 0] H iw ib (s.nums p.sems) := by
  refine acalls' (N := 16) (rs := []) [] (by rw [hS.P]; exact Tryz.func92) rfl rfl rfl (by decide) (by simp) ?_
  simp [entryR, hS.P, hi]
  refine AWp.loop (S := Nat) (fun k => k ≤ p.sems.length) (fun k => [(0, .ptr iw 0 0 0), (6, .fsl (p.sems.map encInt)), (7, .int .i64 p.sems.length), (8, .int .i64 k)]) (fun k => H.upd (wwr iw ib (s.nums (p.sems.take k)))) (fun k => p.sems.length - k) 0 (Nat.zero_le _) ?_ fun k hk => ?_
  · simp only [List.take_zero]
    rw [show s.nums [] = s from rfl, hW.same]
    exact Wk.regs (by simp)
  refine aC_sound (lv := []) _ _ _ _ ?_
  simp [hS.P]
  refine aCond_dec (fun hlt => ?_) (fun hge => ?_)
  · obtain ⟨n, hn⟩ : ∃ n, p.sems[k]? = some n := ⟨p.sems[k], List.getElem?_eq_getElem (by omega)⟩
    have h1 := nums_len (p.sems.take k) s
    have h2 : (p.sems.take k).length = k := by simp; omega
    simp [hS.P, hn, encInt]
    refine (wu8_spec hS iw ib (s.nums (p.sems.take k)) n (by omega)).go (hW.upd _) ?_
    simp [hW.upd_upd]
    refine ⟨k + 1, by omega, by omega, ?_⟩
    rw [nums_take hn]
    exact Wk.regs (by simp [wrap1 (n := k) (by omega)])
  · obtain rfl : k = p.sems.length := by omega
    simp
    exact Leave.stay ⟨rfl, by simp⟩
theorem wslot_in {H : AH} {iw ib : Nat} (t : WSt) (hb : H.get ib ≠ .free) : (t.slot ib).In fun k => H.get k ≠ .free := by
  intro x hx c hc
  simp [WSt.slot] at hx
  subst hx
  simp at hc
  rcases hc with rfl | rfl
  · exact .sl _ _ _ _ hb
  · exact (encErr_data t.err).mono fun _ h => h.elim
theorem wbuf_in (t : WSt) {p : Nat → Prop} : (t.buf).In p := by
  intro x hx c hc
  simp only [List.mem_map] at hx
  obtain ⟨b, _, rfl⟩ := hx
  simp at hc; subst hc
  exact (encB_data b).mono fun _ h => h.elim
theorem record_spec {X : Ctx} (hS : Sent X) {H : AH} {iw ib : Nat} {s u : WSt} (hW : WS H iw ib s) (tag : Int) (g : FuncId) (cs : List AV)
    (hput : WAt X g ([.ptr H.nx 0 0 0] ++ cs) ((H.put H.nx (WSt.new.slot (H.nx + 1))).put (H.nx + 1) WSt.new.buf) H.nx (H.nx + 1) u) (hu : u.data.length ≤ 1048576) (hl : s.data.length + u.data.length + 3 ≤ 1073741824) :
    WAt X 86 [.ptr iw 0 0 0, .int .i64 tag, .func (.func g) [] cs] H iw ib (s.rcd tag u.out) := by
  refine acalls' (N := 22) (rs := []) [] (by rw [hS.P]; exact Tryz.func86) rfl rfl rfl (by decide) (by simp) ?_
  simp [entryR, hS.P]
  refine (new_spec hS H).mono ?_
  rintro _ _ ⟨rfl, rfl⟩
  simp [hS.P]
  refine hput.go ?_
  have hW0 : WS ((H.put H.nx (WSt.new.slot (H.nx + 1))).put (H.nx + 1) WSt.new.buf) H.nx (H.nx + 1) WSt.new := ⟨by simp, by simp, by omega⟩
  simp [hS.P]
  refine (wdone_spec hS _ _ u (hW0.upd u) (by omega)).mono ?_
  rintro _ _ ⟨rfl, rfl⟩
  simp [hS.P, WSt.done]
  have hi1 : iw < H.nx := AH.lt_nx (by rw [hW.w]; simp [WSt.slot])
  have hi2 : ib < H.nx := AH.lt_nx (by rw [hW.b]; simp [WSt.buf])
  have hW1 : WS (((H.put H.nx (WSt.new.slot (H.nx + 1))).put (H.nx + 1) WSt.new.buf).upd (wwr H.nx (H.nx + 1) u)) iw ib s := ⟨by
    rw [wwr_other (by omega) (by omega), AH.put_ne _ _ (by omega), AH.put_ne _ _ (by omega)]; exact hW.w, by
    rw [wwr_other (by omega) (by omega), AH.put_ne _ _ (by omega), AH.put_ne _ _ (by omega)]; exact hW.b, hW.ne⟩
  have ho : u.out.length ≤ u.data.length := by unfold WSt.out; split <;> simp
  refine (rcd_spec hS iw ib s tag u.out (by omega)).go hW1 ?_
  simp
  refine Leave.keep (H'' := H.upd (wwr iw ib (s.rcd tag u.out))) ⟨fun i hi => ?_, fun i hi => ?_⟩ (.tup _ (by simp)) ⟨rfl, rfl⟩
  · rw [wwr_other]
    · exact hi
    · rintro rfl; rw [hW.w] at hi; simp [WSt.slot] at hi
    · rintro rfl; rw [hW.b] at hi; simp [WSt.buf] at hi
  · have hlt := AH.lt_nx hi
    have hib : H.get ib ≠ .free := by rw [hW.b]; simp [WSt.buf]
    by_cases e1 : i = iw
    · subst e1
      have ew : ∀ K : AH, (K.upd (wwr i ib (s.rcd tag u.out))).get i = (s.rcd tag u.out).slot ib := fun K => by simp [wwr]
      refine ⟨by rw [ew, ew], by rw [ew]; simp [WSt.slot], .inr (by rw [ew]; exact wslot_in (iw := i) _ hib)⟩
    · by_cases e2 : i = ib
      · subst e2
        have ew : ∀ K : AH, (K.upd (wwr iw i (s.rcd tag u.out))).get i = (s.rcd tag u.out).buf := fun K => by simp [wwr, e1]
        refine ⟨by rw [ew, ew], by rw [ew]; simp [WSt.buf], .inr (by rw [ew]; exact wbuf_in _)⟩
      · refine ⟨?_, by rw [wwr_other e1 e2]; exact hi, .inl (wwr_other e1 e2)⟩
        rw [wwr_other e1 e2, wwr_other e1 e2, wwr_other (by omega) (by omega), AH.put_ne _ _ (by omega), AH.put_ne _ _ (by omega)]
end Go.Proofs.YtndoembhbfiokaaGreatDoor.Am
set_option linter.unusedVariables false
set_option linter.unusedSimpArgs false
namespace Go.Proofs.YtndoembhbfiokaaGreatDoor.Am
open Go.RowKit Go.Proofs

theorem recStep {X : Ctx} (hS : Sent X) {K : AH} {iw ib i sz : Nat} {s u : WSt} {v : AV} (hW : WS K iw ib s) (hi : K.get i = .row [v] sz 0) (tag : Int) (g : FuncId)
    (hput : ∀ (H' : AH) (jw jb : Nat), WS H' jw jb WSt.new → H'.get i = .row [v] sz 0 → i ≠ jw → i ≠ jb → WAt X g [.ptr jw 0 0 0, .ptr i 0 0 0] H' jw jb u) (hu : u.data.length ≤ 1048576) (hl : s.data.length + u.data.length + 3 ≤ 1073741824) :
    WAt X 86 [.ptr iw 0 0 0, .int .i64 tag, .func (.func g) [] [.ptr i 0 0 0]] K iw ib (s.rcd tag u.out) := by
  have hlt := AH.lt_nx (AH.ne_free hi)
  refine record_spec hS hW tag g [.ptr i 0 0 0] (hput _ _ _ ⟨by simp, by simp, by omega⟩ ?_ (by omega) (by omega)) hu hl
  rw [AH.put_ne _ _ (by omega), AH.put_ne _ _ (by omega)]; exact hi

def pageRec (x : PageD) : WSt := (WSt.new.num x.rights 1).put x.init
def procRec (x : ProcD) : WSt := ((WSt.new.num x.entry 4).num x.prio 1).put (flagB x.auto)
def portRec (x : PortD) : WSt := (((WSt.new.num x.kind 1).num x.size 1).num x.depth 1).num x.refresh 1
def rcds {A : Type} (tag : Int) (f : A → WSt) (s : WSt) (l : List A) : WSt := l.foldl (fun s x => s.rcd tag (f x).out) s
theorem rcds_take {A : Type} {tag : Int} {f : A → WSt} {l : List A} {k : Nat} {x : A} (h : l[k]? = some x) (s : WSt) : rcds tag f s (l.take (k + 1)) = (rcds tag f s (l.take k)).rcd tag (f x).out := by
  simp [rcds, List.take_add_one, h]
theorem out_len (s : WSt) : s.out.length ≤ s.data.length := by unfold WSt.out; split <;> simp
theorem rcds_len {A : Type} {tag : Int} {f : A → WSt} {b : Nat} : ∀ (l : List A) (s : WSt), (∀ x ∈ l, (f x).data.length ≤ b) → (rcds tag f s l).data.length ≤ s.data.length + l.length * (b + 3)
  | [], s, _ => by simp [rcds]
  | x :: l, s, h => by
    have h1 := rcds_len (tag := tag) (f := f) l (s.rcd tag (f x).out) fun y hy => h y (List.mem_cons_of_mem _ hy)
    have h2 := rcd_len s tag (f x).out
    have h3 := out_len (f x)
    have h4 := h x (List.mem_cons_self ..)
    simp only [rcds, List.foldl_cons, List.length_cons, Nat.add_mul] at h1 ⊢
    omega
theorem pageRec_len (x : PageD) : (pageRec x).data.length ≤ x.init.length + 1 := by
  have h1 := num_len WSt.new x.rights 1
  have h2 := put_len (WSt.new.num x.rights 1) x.init
  simp only [pageRec]; simp [WSt.new] at h1 h2 ⊢; omega
theorem procRec_len (x : ProcD) : (procRec x).data.length ≤ 6 := by
  have h1 := num_len WSt.new x.entry 4
  have h2 := num_len (WSt.new.num x.entry 4) x.prio 1
  have h3 := put_len ((WSt.new.num x.entry 4).num x.prio 1) (flagB x.auto)
  simp only [procRec]; simp [WSt.new, flagB] at h1 h2 h3 ⊢; omega
theorem portRec_len (x : PortD) : (portRec x).data.length ≤ 4 := by
  have h1 := num_len WSt.new x.kind 1
  have h2 := num_len (WSt.new.num x.kind 1) x.size 1
  have h3 := num_len ((WSt.new.num x.kind 1).num x.size 1) x.depth 1
  have h4 := num_len (((WSt.new.num x.kind 1).num x.size 1).num x.depth 1) x.refresh 1
  simp only [portRec]; simp [WSt.new] at h1 h2 h3 h4 ⊢; omega
def recs1 (p : PlanD) : WSt := rcds 1 pageRec WSt.new p.pages
def recs2 (p : PlanD) : WSt := rcds 2 procRec (recs1 p) p.procs
def recs3 (p : PlanD) : WSt := rcds 3 portRec (recs2 p) p.ports
def recs4 (p : PlanD) : WSt := (recs3 p).rcd 4 (WSt.new.num p.events 1).out
def recs5 (p : PlanD) : WSt := (recs4 p).rcd 5 (WSt.new.nums p.sems).out
/-- What a plan in form says of its lists. -/
structure PlanIn (p : PlanD) : Prop where
  pages : 1 ≤ p.pages.length ∧ p.pages.length ≤ 32
  page : ∀ x ∈ p.pages, 0 ≤ x.rights ∧ x.rights ≤ 7 ∧ x.init.length ≤ 64
  procs : 1 ≤ p.procs.length ∧ p.procs.length ≤ 8
  proc : ∀ x ∈ p.procs, 0 ≤ x.entry ∧ x.entry < 64 * p.pages.length ∧ x.entry.tmod 4 = 0 ∧ 0 ≤ x.prio ∧ x.prio ≤ 255
  ports : p.ports.length ≤ 8
  port : ∀ x ∈ p.ports, x.err = .none
  events : 0 ≤ p.events ∧ p.events ≤ 8
  sems : p.sems.length ≤ 8
  sem : ∀ n ∈ p.sems, 0 ≤ n ∧ n ≤ 255
  id : 0 ≤ p.id ∧ p.id ≤ 2147483647
  bound : boundI p ≤ 4096
theorem firstBad_all' {A : Type} {f : A → Nat} : ∀ (l : List A) (i : Nat), firstBad f l i = .none → ∀ x ∈ l, f x = 0
  | [], _, _ => by simp
  | a :: l, i, h => by
    unfold firstBad at h
    split at h
    · rename_i h0
      intro x hx
      rcases List.mem_cons.1 hx with rfl | hx
      · exact h0
      · exact firstBad_all' l _ h x hx
    · cases h
theorem or_none' {a b : PE} (h : a.or b = .none) : a = .none ∧ b = .none := by
  cases a <;> simp only [PE.or] at h
  · exact ⟨rfl, h⟩
  · cases h
  · cases h
theorem planIn {p : PlanD} (h : planE p = .none) : PlanIn p := by
  obtain ⟨h1, h2⟩ := or_none' h
  obtain ⟨h3, h4⟩ := or_none' h2
  obtain ⟨h5, h6⟩ := or_none' h4
  obtain ⟨h7, h8⟩ := or_none' h6
  obtain ⟨h9, h10⟩ := or_none' h8
  unfold idE at h1
  unfold pagesE at h3
  unfold procsE at h5
  unfold semsE at h9
  unfold boundE at h10
  have h7' := h7
  unfold portsE at h7
  split at h1
  · cases h1
  split at h3
  · cases h3
  split at h5
  · cases h5
  split at h7
  · cases h7
  split at h9
  · cases h9
  split at h9
  · cases h9
  split at h10
  · cases h10
  refine ⟨by omega, fun x hx => ?_, by omega, fun x hx => ?_, by omega, fun x hx => portsE_none h7' x hx, by omega, by omega, fun x hx => ?_, by omega, by omega⟩
  · have := firstBad_all' _ _ h3 x hx
    unfold PageD.bad at this
    split at this
    · cases this
    · split at this
      · cases this
      · omega
  · have := firstBad_all' _ _ h5 x hx
    unfold ProcD.bad at this
    split at this
    · cases this
    · rename_i h; refine ⟨by omega, by omega, Classical.byContradiction fun k => h (.inr (.inr (.inl k))), by omega, by omega⟩
  · have := firstBad_all' _ _ h9 x hx
    unfold semBad at this
    split at this
    · cases this
    · omega
theorem recs_len {p : PlanD} (h : PlanIn p) : (recs1 p).data.length ≤ 2176 ∧ (recs2 p).data.length ≤ 2248 ∧ (recs3 p).data.length ≤ 2304 ∧ (recs4 p).data.length ≤ 2308 ∧ (recs5 p).data.length ≤ 2319 := by
  have a1 := rcds_len (tag := 1) (f := pageRec) (b := 65) p.pages WSt.new fun x hx => by have := pageRec_len x; have := h.page x hx; omega
  have a2 := rcds_len (tag := 2) (f := procRec) (b := 6) p.procs (recs1 p) fun x _ => procRec_len x
  have a3 := rcds_len (tag := 3) (f := portRec) (b := 4) p.ports (recs2 p) fun x _ => portRec_len x
  have a4 := rcd_len (recs3 p) 4 (WSt.new.num p.events 1).out
  have a5 := rcd_len (recs4 p) 5 (WSt.new.nums p.sems).out
  have b4 := out_len (WSt.new.num p.events 1)
  have b5 := out_len (WSt.new.nums p.sems)
  have c4 := num_len WSt.new p.events 1
  have c5 := nums_len p.sems WSt.new
  have d0 : WSt.new.data.length = 0 := rfl
  have e1 := h.pages; have e2 := h.procs; have e3 := h.ports; have e4 := h.sems
  change (recs1 p).data.length ≤ _ at a1
  change (recs2 p).data.length ≤ _ at a2
  change (recs3 p).data.length ≤ _ at a3
  change (recs4 p).data.length ≤ _ at a4
  change (recs5 p).data.length ≤ _ at a5
  refine ⟨by omega, by omega, by omega, by omega, by omega⟩
end Go.Proofs.YtndoembhbfiokaaGreatDoor.Am
set_option linter.unusedVariables false
set_option linter.unusedSimpArgs false
namespace Go.Proofs.YtndoembhbfiokaaGreatDoor.Am
open Go.RowKit Go.Proofs

theorem rcds_len_take {A : Type} {tag : Int} {f : A → WSt} {b : Nat} (l : List A) (s : WSt) (h : ∀ x ∈ l, (f x).data.length ≤ b) (n : Nat) : (rcds tag f s (l.take n)).data.length ≤ s.data.length + l.length * (b + 3) := by
  have h1 := rcds_len (tag := tag) (f := f) (l.take n) s fun x hx => h x (List.mem_of_mem_take hx)
  have h2 : (l.take n).length * (b + 3) ≤ l.length * (b + 3) := Nat.mul_le_mul_right _ (by simp; omega)
  omega
theorem records_spec {X : Ctx} (hS : Sent X) (p : PlanD) (h : PlanIn p) (H : AH) :
    ACalls X 53 [encPlan p] H fun v H' => v = .ptr (H.nx + 1) 0 0 0 ∧ WS H' (H.nx + 1) (H.nx + 2) (recs5 p) ∧ ∀ i, H.get i ≠ .free → H'.get i = H.get i := by
  refine acalls' (N := 51) (rs := [.tmp 2]) [] (by rw [hS.P]; exact Tryz.func53) rfl rfl rfl (by decide) (by simp) ?_
  have f1 : H.get (H.nx + 1) = .free := AH.free_add H 1
  have f2 : H.get (H.nx + 2) = .free := AH.free_add H 2
  have e1 := h.pages; have e2 := h.procs; have e3 := h.ports; have e4 := h.sems
  have hr := recs_len h
  simp [entryR, hS.P]
  refine (new_spec hS (H.put H.nx (.row [encPlan p] 7 0))).mono ?_
  have hnx : (H.put H.nx (.row [encPlan p] 7 0)).nx = H.nx + 1 := AH.nx_fresh H _
  rw [hnx]
  rintro _ _ ⟨rfl, rfl⟩
  simp [hS.P]
  generalize hK : (AH.put _ (H.nx + 1 + 1) _) = K0
  have w0 : WS K0 (H.nx + 1) (H.nx + 2) WSt.new := by rw [← hK]; exact ⟨by simp, by simp, by omega⟩
  have g0 : K0.get H.nx = .row [encPlan p] 7 0 := by rw [← hK]; simp
  have k0 : ∀ i, H.get i ≠ .free → K0.get i = H.get i := by rw [← hK]; exact put_keeps f2 (put_keeps f1 (put_keeps (by simp) (keeps_refl H)))
  have d0 : WSt.new.data.length = 0 := rfl
  have step : ∀ {K : AH} {s : WSt} (t : Slot) (u : WSt), WS K (H.nx + 1) (H.nx + 2) s → K.get H.nx = .row [encPlan p] 7 0 → (∀ i, H.get i ≠ .free → K.get i = H.get i) →
      WS ((K.put K.nx t).upd (wwr (H.nx + 1) (H.nx + 2) u)) (H.nx + 1) (H.nx + 2) u ∧ ((K.put K.nx t).upd (wwr (H.nx + 1) (H.nx + 2) u)).get H.nx = .row [encPlan p] 7 0 ∧ ∀ i, H.get i ≠ .free → ((K.put K.nx t).upd (wwr (H.nx + 1) (H.nx + 2) u)).get i = H.get i := fun {K s} t u hW hg hk => by
    have hlt := AH.lt_nx (AH.ne_free hg)
    refine ⟨(hW.other (AH.fresh K) t).upd u, ?_, WS.keeps f1 f2 (put_keeps (keepsNx hk) hk)⟩
    rw [wwr_other (by omega) (by omega), AH.put_ne _ _ (by omega)]; exact hg
  have step0 : ∀ {K : AH} {s : WSt} (u : WSt), WS K (H.nx + 1) (H.nx + 2) s → K.get H.nx = .row [encPlan p] 7 0 → (∀ i, H.get i ≠ .free → K.get i = H.get i) →
      WS (K.upd (wwr (H.nx + 1) (H.nx + 2) u)) (H.nx + 1) (H.nx + 2) u ∧ (K.upd (wwr (H.nx + 1) (H.nx + 2) u)).get H.nx = .row [encPlan p] 7 0 ∧ ∀ i, H.get i ≠ .free → (K.upd (wwr (H.nx + 1) (H.nx + 2) u)).get i = H.get i := fun {K s} u hW hg hk => by
    refine ⟨hW.upd u, ?_, WS.keeps f1 f2 hk⟩
    rw [wwr_other (by omega) (by omega)]; exact hg
  -- pages
  refine AWp.loop (S := Nat × AH) (fun s => s.1 ≤ p.pages.length ∧ WS s.2 (H.nx + 1) (H.nx + 2) (rcds 1 pageRec WSt.new (p.pages.take s.1)) ∧ s.2.get H.nx = .row [encPlan p] 7 0 ∧ ∀ i, H.get i ≠ .free → s.2.get i = H.get i)
    (fun s => [(1, .ptr H.nx 0 0 0), (3, .ptr (H.nx + 1) 0 0 0), (12, .fsl (p.pages.map encPage)), (13, .int .i64 p.pages.length), (14, .int .i64 s.1)]) (fun s => s.2) (fun s => p.pages.length - s.1) (0, K0) ⟨Nat.zero_le _, w0, g0, k0⟩ (Wk.regs (by simp)) fun s hs => ?_
  obtain ⟨n, K⟩ := s
  obtain ⟨hn, hW, hg, hk⟩ := hs
  simp only at hn hW hg hk
  refine aC_sound (lv := []) _ _ _ _ ?_
  simp [hS.P]
  refine aCond_dec (fun hlt => ?_) (fun hge => ?_)
  · obtain ⟨x, hx⟩ : ∃ x, p.pages[n]? = some x := ⟨p.pages[n], List.getElem?_eq_getElem (by omega)⟩
    have hxi := h.page x (List.mem_of_getElem? hx)
    have hxl := pageRec_len x
    have hl := rcds_len_take (tag := 1) (f := pageRec) (b := 65) p.pages WSt.new (fun y hy => by have := pageRec_len y; have := h.page y hy; omega) n
    simp [hS.P, hx]
    refine (recStep hS (hW.other (AH.fresh K) (.row [encPage x] 2 0)) (by simp) 1 87 (fun H' jw jb hw hi n1 n2 => rec1_spec hS hw x hi n1 n2 (by omega)) (u := pageRec x) (by omega) (by omega)).go ?_
    simp
    obtain ⟨s1, s2, s3⟩ := step (.row [encPage x] 2 0) ((rcds 1 pageRec WSt.new (p.pages.take n)).rcd 1 (pageRec x).out) hW hg hk
    exact ⟨n + 1, _, ⟨by omega, by rw [rcds_take hx]; exact s1, s2, s3⟩, by omega, Wk.regs (by simp [wrap1 (n := n) (by omega)])⟩
  have hn' : n = p.pages.length := by omega
  rw [hn', List.take_length] at hW
  have hW : WS K (H.nx + 1) (H.nx + 2) (recs1 p) := hW
  clear k0 g0 w0 hK hn' hge hn
  simp [hS.P, hg]
  -- processes
  refine AWp.loop (S := Nat × AH) (fun s => s.1 ≤ p.procs.length ∧ WS s.2 (H.nx + 1) (H.nx + 2) (rcds 2 procRec (recs1 p) (p.procs.take s.1)) ∧ s.2.get H.nx = .row [encPlan p] 7 0 ∧ ∀ i, H.get i ≠ .free → s.2.get i = H.get i)
    (fun s => [(1, .ptr H.nx 0 0 0), (3, .ptr (H.nx + 1) 0 0 0), (23, .fsl (p.procs.map encProc)), (24, .int .i64 p.procs.length), (25, .int .i64 s.1)]) (fun s => s.2) (fun s => p.procs.length - s.1) (0, K) ⟨Nat.zero_le _, hW, hg, hk⟩ (Wk.regs (by simp)) fun s hs => ?_
  clear hW hg hk
  obtain ⟨n, K⟩ := s
  obtain ⟨hn, hW, hg, hk⟩ := hs
  simp only at hn hW hg hk
  refine aC_sound (lv := []) _ _ _ _ ?_
  simp [hS.P]
  refine aCond_dec (fun hlt => ?_) (fun hge => ?_)
  · obtain ⟨x, hx⟩ : ∃ x, p.procs[n]? = some x := ⟨p.procs[n], List.getElem?_eq_getElem (by omega)⟩
    have hxl := procRec_len x
    have hl := rcds_len_take (tag := 2) (f := procRec) (b := 6) p.procs (recs1 p) (fun y hy => procRec_len y) n
    simp [hS.P, hx]
    refine (recStep hS (hW.other (AH.fresh K) (.row [encProc x] 3 0)) (by simp) 2 89 (fun H' jw jb hw hi n1 n2 => rec2_spec hS hw x hi n1 n2 (by omega)) (u := procRec x) (by omega) (by omega)).go ?_
    simp
    obtain ⟨s1, s2, s3⟩ := step (.row [encProc x] 3 0) ((rcds 2 procRec (recs1 p) (p.procs.take n)).rcd 2 (procRec x).out) hW hg hk
    exact ⟨n + 1, _, ⟨by omega, by rw [rcds_take hx]; exact s1, s2, s3⟩, by omega, Wk.regs (by simp [wrap1 (n := n) (by omega)])⟩
  have hn' : n = p.procs.length := by omega
  rw [hn', List.take_length] at hW
  have hW : WS K (H.nx + 1) (H.nx + 2) (recs2 p) := hW
  clear hn' hge hn
  simp [hS.P, hg]
  -- ports
  refine AWp.loop (S := Nat × AH) (fun s => s.1 ≤ p.ports.length ∧ WS s.2 (H.nx + 1) (H.nx + 2) (rcds 3 portRec (recs2 p) (p.ports.take s.1)) ∧ s.2.get H.nx = .row [encPlan p] 7 0 ∧ ∀ i, H.get i ≠ .free → s.2.get i = H.get i)
    (fun s => [(1, .ptr H.nx 0 0 0), (3, .ptr (H.nx + 1) 0 0 0), (34, .fsl (p.ports.map encPort)), (35, .int .i64 p.ports.length), (36, .int .i64 s.1)]) (fun s => s.2) (fun s => p.ports.length - s.1) (0, K) ⟨Nat.zero_le _, hW, hg, hk⟩ (Wk.regs (by simp)) fun s hs => ?_
  clear hW hg hk
  obtain ⟨n, K⟩ := s
  obtain ⟨hn, hW, hg, hk⟩ := hs
  simp only at hn hW hg hk
  refine aC_sound (lv := []) _ _ _ _ ?_
  simp [hS.P]
  refine aCond_dec (fun hlt => ?_) (fun hge => ?_)
  · obtain ⟨x, hx⟩ : ∃ x, p.ports[n]? = some x := ⟨p.ports[n], List.getElem?_eq_getElem (by omega)⟩
    have hxl := portRec_len x
    have hl := rcds_len_take (tag := 3) (f := portRec) (b := 4) p.ports (recs2 p) (fun y hy => portRec_len y) n
    simp [hS.P, hx]
    refine (recStep hS (hW.other (AH.fresh K) (.row [encPort x] 4 0)) (by simp) 3 90 (fun H' jw jb hw hi n1 n2 => rec3_spec hS hw x hi n1 n2 (by simp [WSt.new])) (u := portRec x) (by omega) (by omega)).go ?_
    simp
    obtain ⟨s1, s2, s3⟩ := step (.row [encPort x] 4 0) ((rcds 3 portRec (recs2 p) (p.ports.take n)).rcd 3 (portRec x).out) hW hg hk
    exact ⟨n + 1, _, ⟨by omega, by rw [rcds_take hx]; exact s1, s2, s3⟩, by omega, Wk.regs (by simp [wrap1 (n := n) (by omega)])⟩
  have hn' : n = p.ports.length := by omega
  rw [hn', List.take_length] at hW
  have hW : WS K (H.nx + 1) (H.nx + 2) (recs3 p) := hW
  clear hn' hge hn
  simp [hS.P, hg]
  -- events
  have c4 := num_len WSt.new p.events 1
  have c5 := nums_len p.sems WSt.new
  refine (recStep hS hW hg 4 91 (fun H' jw jb hw hi n1 n2 => rec4_spec hS hw p hi n1 n2 (by simp [WSt.new])) (u := WSt.new.num p.events 1) (by omega) (by omega)).go ?_
  obtain ⟨s1, s2, s3⟩ := step0 (recs4 p) hW hg hk
  have e4 : (recs3 p).rcd 4 (WSt.new.num p.events 1).out = recs4 p := rfl
  rw [e4]
  simp [hS.P]
  refine (recStep hS s1 s2 5 92 (fun H' jw jb hw hi n1 n2 => rec5_spec hS hw p hi n1 n2 (by simp [WSt.new]; omega)) (u := WSt.new.nums p.sems) (by omega) (by omega)).go ?_
  obtain ⟨t1, t2, t3⟩ := step0 (recs5 p) s1 s2 s3
  have e5 : (recs4 p).rcd 5 (WSt.new.nums p.sems).out = recs5 p := rfl
  rw [e5]
  simp [hS.P]
  exact Leave.stay ⟨rfl, t1, t3⟩
end Go.Proofs.YtndoembhbfiokaaGreatDoor.Am
set_option linter.unusedVariables false
set_option linter.unusedSimpArgs false
namespace Go.Proofs.YtndoembhbfiokaaGreatDoor.Am
open Go.RowKit Go.Proofs

/-! ### What a writer holds that nothing spoilt -/
structure WGood (s : WSt) (d : List UInt8) : Prop where
  err : s.err = .none
  data : s.data = d
def beB (n : Int) : Nat → List UInt8
  | 0 => []
  | k + 1 => byteAt n k :: beB n k
theorem beB_len (n : Int) : ∀ k, (beB n k).length = k
  | 0 => rfl
  | k + 1 => by simp [beB, beB_len n k]
theorem WGood.new : WGood WSt.new [] := ⟨rfl, rfl⟩
theorem WGood.put {s : WSt} {d : List UInt8} (h : WGood s d) (b : List UInt8) : WGood (s.put b) (d ++ b) := by
  unfold WSt.put; rw [h.err]; exact ⟨rfl, by simp [h.data]⟩
theorem WGood.puts {n : Int} : ∀ (k : Nat) {s : WSt} {d : List UInt8}, WGood s d → WGood (s.puts n k) (d ++ beB n k)
  | 0, s, d, h => by simpa [WSt.puts, beB] using h
  | k + 1, s, d, h => by
    have := WGood.puts (n := n) k (h.put [byteAt n k])
    simpa [WSt.puts, beB] using this
theorem WGood.num {s : WSt} {d : List UInt8} (h : WGood s d) {n : Int} {k : Nat} (h0 : 0 ≤ n) (h1 : n ≤ mostOf k) : WGood (s.num n k) (d ++ beB n k) := by
  unfold WSt.num; rw [if_neg (by omega)]; exact h.puts k
def recB (tag : Int) (body : List UInt8) : List UInt8 := beB tag 1 ++ beB body.length 2 ++ body
theorem WGood.rcd {s : WSt} {d : List UInt8} (h : WGood s d) {tag : Int} (h0 : 1 ≤ tag) (h1 : tag ≤ 255) {body : List UInt8} (hb : body.length ≤ 65535) : WGood (s.rcd tag body) (d ++ recB tag body) := by
  unfold WSt.rcd; rw [if_neg (by omega), if_neg (by omega)]
  have m1 : mostOf 1 = 255 := rfl
  have m2 : mostOf 2 = 65535 := rfl
  have := ((h.num (n := tag) (k := 1) (by omega) (by omega)).num (n := (body.length : Int)) (k := 2) (by omega) (by omega)).put body
  simpa [recB, List.append_assoc] using this
theorem WGood.out {s : WSt} {d : List UInt8} (h : WGood s d) : s.out = d := by unfold WSt.out; rw [h.err]; exact h.data
theorem WGood.rcds {A : Type} {tag : Int} (h0 : 1 ≤ tag) (h1 : tag ≤ 255) {f : A → WSt} {g : A → List UInt8} : ∀ (l : List A) {s : WSt} {d : List UInt8}, WGood s d → (∀ x ∈ l, WGood (f x) (g x) ∧ (g x).length ≤ 65535) → WGood (rcds tag f s l) (d ++ l.flatMap fun x => recB tag (g x))
  | [], s, d, h, _ => by simpa [Go.Proofs.YtndoembhbfiokaaGreatDoor.Am.rcds] using h
  | x :: l, s, d, h, hl => by
    obtain ⟨hx, hxl⟩ := hl x (List.mem_cons_self ..)
    have h2 := h.rcd h0 h1 hxl
    rw [← hx.out] at h2
    have := WGood.rcds h0 h1 l h2 fun y hy => hl y (List.mem_cons_of_mem _ hy)
    rw [hx.out] at this
    simpa [Go.Proofs.YtndoembhbfiokaaGreatDoor.Am.rcds, hx.out] using this
theorem WGood.nums : ∀ (l : List Int) {s : WSt} {d : List UInt8}, WGood s d → (∀ n ∈ l, 0 ≤ n ∧ n ≤ 255) → WGood (s.nums l) (d ++ l.flatMap fun n => beB n 1)
  | [], s, d, h, _ => by simpa [WSt.nums] using h
  | n :: l, s, d, h, hl => by
    have m1 : mostOf 1 = 255 := rfl
    have hn := hl n (List.mem_cons_self ..)
    have := WGood.nums l (h.num (n := n) (k := 1) hn.1 (by omega)) fun y hy => hl y (List.mem_cons_of_mem _ hy)
    simpa [WSt.nums] using this
def pageB (x : PageD) : List UInt8 := beB x.rights 1 ++ x.init
def procB (x : ProcD) : List UInt8 := beB x.entry 4 ++ beB x.prio 1 ++ flagB x.auto
def portB (x : PortD) : List UInt8 := beB x.kind 1 ++ beB x.size 1 ++ beB x.depth 1 ++ beB x.refresh 1
def semsB (l : List Int) : List UInt8 := l.flatMap fun n => beB n 1
def bodyB (p : PlanD) : List UInt8 :=
  p.pages.flatMap (fun x => recB 1 (pageB x)) ++ p.procs.flatMap (fun x => recB 2 (procB x)) ++ p.ports.flatMap (fun x => recB 3 (portB x)) ++ recB 4 (beB p.events 1) ++ recB 5 (semsB p.sems)
def magicB : List UInt8 := [70, 80, 76, 78]
def planB (p : PlanD) : List UInt8 := magicB ++ beB 1 2 ++ beB (15 + (bodyB p).length + 4) 4 ++ beB p.id 4 ++ flagB p.mobile ++ bodyB p
def sealB (b : List UInt8) : List UInt8 := b ++ laidB (sumB b)
theorem port_range {x : PortD} (h : x.err = .none) : 0 ≤ x.kind ∧ x.kind ≤ 255 ∧ 0 ≤ x.size ∧ x.size ≤ 255 ∧ 0 ≤ x.depth ∧ x.depth ≤ 255 ∧ 0 ≤ x.refresh ∧ x.refresh ≤ 255 := by
  unfold PortD.err at h
  have h5 : (if 3 ≤ x.kind then (8 : Int) else 1) ≤ 8 := by split <;> omega
  have h6 : (if x.kind = 1 then (255 : Int) else 0) ≤ 255 := by split <;> omega
  generalize (if 3 ≤ x.kind then (8 : Int) else 1) = a at h h5
  generalize (if x.kind = 1 then (255 : Int) else 0) = b at h h6
  by_cases c1 : x.kind < 1 ∨ 4 < x.kind
  · rw [if_pos c1] at h; cases h
  rw [if_neg c1] at h
  by_cases c2 : x.size < 1 ∨ 32 < x.size
  · rw [if_pos c2] at h; cases h
  rw [if_neg c2] at h
  by_cases c3 : x.depth < 1 ∨ a < x.depth ∨ x.refresh < 0 ∨ b < x.refresh
  · rw [if_pos c3] at h; cases h
  omega
theorem recs5_good {p : PlanD} (h : PlanIn p) : WGood (recs5 p) (bodyB p) := by
  have m1 : mostOf 1 = 255 := rfl
  have m4 : mostOf 4 = 4294967295 := rfl
  have e0 := h.pages; have e2 := h.procs; have e4 := h.sems
  have g1 := WGood.new.rcds (tag := 1) (by omega) (by omega) (f := pageRec) (g := pageB) p.pages fun x hx => by
    have hx' := h.page x hx
    refine ⟨?_, by simp [pageB, beB_len]; omega⟩
    have := (WGood.new.num (n := x.rights) (k := 1) (by omega) (by omega)).put x.init
    simpa [pageRec, pageB] using this
  have g2 := g1.rcds (tag := 2) (by omega) (by omega) (f := procRec) (g := procB) p.procs fun x hx => by
    have hx' := h.proc x hx
    refine ⟨?_, by simp [procB, beB_len, flagB]⟩
    have := ((WGood.new.num (n := x.entry) (k := 4) (by omega) (by omega)).num (n := x.prio) (k := 1) (by omega) (by omega)).put (flagB x.auto)
    simpa [procRec, procB] using this
  have g3 := g2.rcds (tag := 3) (by omega) (by omega) (f := portRec) (g := portB) p.ports fun x hx => by
    have hx' := port_range (h.port x hx)
    refine ⟨?_, by simp [portB, beB_len]⟩
    have := (((WGood.new.num (n := x.kind) (k := 1) (by omega) (by omega)).num (n := x.size) (k := 1) (by omega) (by omega)).num (n := x.depth) (k := 1) (by omega) (by omega)).num (n := x.refresh) (k := 1) (by omega) (by omega)
    simpa [portRec, portB] using this
  have hev := h.events
  have o4 := (WGood.new.num (n := p.events) (k := 1) (by omega) (by omega)).out
  have g4 := g3.rcd (tag := 4) (by omega) (by omega) (body := (WSt.new.num p.events 1).out) (by rw [o4]; simp [beB_len])
  have o5 := (WGood.new.nums p.sems h.sem).out
  have sl : ∀ l : List Int, (semsB l).length = l.length := fun l => by
    induction l with
    | nil => rfl
    | cons n l ih => simp [semsB, beB_len] at ih ⊢; omega
  have g5 := g4.rcd (tag := 5) (by omega) (by omega) (body := (WSt.new.nums p.sems).out) (by rw [o5]; have := sl p.sems; simp [semsB] at this ⊢; omega)
  have g6 : WGood (recs5 p) _ := g5
  exact ⟨g6.err, by rw [g6.data, o5, o4]; simp [bodyB, semsB]⟩
noncomputable def planErr (p : PlanD) : PE := if planE p = .none then .none else .bare 8
noncomputable def bytesAns (p : PlanD) : List UInt8 := if planE p = .none then sealB (planB p) else []
theorem planBytes_spec {X : Ctx} (hS : Sent X) (p : PlanD) (hp : p.Small) : ACalc X 22 [encPlan p] (.tup [encBytes (bytesAns p), encErr (planErr p)]) := by
  intro H
  refine acalls' (N := 55) (rs := [.tmp 2, .tmp 3]) [23] (by rw [hS.P]; exact Tryz.func22) rfl rfl rfl (by decide) (by simp) ?_
  have hk0 : ∀ i, H.get i ≠ .free → (H.put H.nx (.row [encPlan p] 7 0)).get i = H.get i := put_keeps (by simp) (keeps_refl H)
  simp [entryR, hS.P]
  refine (planCheck_spec hS p hp).go ?_
  by_cases he : planE p = .none
  rotate_left
  · obtain ⟨T, v, hT⟩ := encErr_iface he
    simp [hS.P, hT]
    rw [aC_draw (hc := by kernel_rfl)]
    simp [hS.P, hS.e8]
    refine Leave.le (v' := .tup [.fsl [], sentV 8]) (Le.tupL ⟨Le.csl [], Le.refl _, trivial⟩) ?_
    exact Leave.data hk0 (by simp) ⟨by simp [bytesAns, planErr, he, encBytes, encErr], rfl⟩
  have hin := planIn he
  have hg := recs5_good hin
  have hlen := recs_len hin
  simp [hS.P, he, encErr]
  refine (records_spec hS p hin (H.put H.nx (.row [encPlan p] 7 0))).mono ?_
  rw [AH.nx_fresh]
  intro v K hv
  obtain ⟨rfl, hW, hk⟩ := hv
  have g0 : K.get H.nx = .row [encPlan p] 7 0 := by rw [hk _ (by simp)]; simp
  simp [hS.P]
  refine (wdone_spec hS _ _ (recs5 p) hW (by omega)).mono ?_
  intro v K2 hv
  rw [hv.1, hv.2]
  clear hv v K2
  simp [hS.P, WSt.done, hg.out, hg.err, encErr, encBytes]
  have hkH : ∀ i, H.get i ≠ .free → K.get i = H.get i := fun i hi => by rw [hk i (by rw [hk0 i hi]; exact hi), hk0 i hi]
  have hbl : (bodyB p).length ≤ 2319 := by rw [← hg.data]; omega
  generalize hB : bodyB p = B at hbl
  refine (new_spec hS K).mono ?_
  rintro _ _ ⟨rfl, rfl⟩
  simp [hS.P]
  generalize hM : (AH.put _ (K.nx + 1) WSt.new.buf) = M
  have wM : WS M K.nx (K.nx + 1) WSt.new := by rw [← hM]; exact ⟨by simp, by simp, by omega⟩
  have hlt := AH.lt_nx (AH.ne_free g0)
  have gM : M.get H.nx = .row [encPlan p] 7 0 := by rw [← hM, AH.put_ne _ _ (by omega), AH.put_ne _ _ (by omega)]; exact g0
  have f1 : H.get K.nx = .free := keepsNx hkH
  have f2 : H.get (K.nx + 1) = .free := by
    have := keepsNx (put_keeps (s := WSt.new.slot (K.nx + 1)) f1 hkH)
    rwa [AH.nx_fresh] at this
  have kM : ∀ i, H.get i ≠ .free → M.get i = H.get i := by rw [← hM]; exact put_keeps f2 (put_keeps f1 hkH)
  refine ACalls.frz M.nx 0 1 (magicB.map encB) [.ptr K.nx 0 0 0, .fsl (magicB.map encB)] (by rw [AH.put_same]; rfl) ⟨.refl _, Frz.all rfl, trivial⟩ ?_
  rw [AH.put_put]
  have wN := wM.other (AH.fresh M) .dead
  have gN : (M.put M.nx .dead).get H.nx = .row [encPlan p] 7 0 := by rw [AH.put_ne _ _ (by have := AH.lt_nx (AH.ne_free gM); omega)]; exact gM
  have kN : ∀ i, H.get i ≠ .free → (M.put M.nx .dead).get i = H.get i := put_keeps (keepsNx kM) kM
  generalize M.put M.nx .dead = N at wN gN kN
  have gU : ∀ t : WSt, (N.upd (wwr K.nx (K.nx + 1) t)).get H.nx = .row [encPlan p] 7 0 := fun t => (wwr_other (by omega) (by omega)).trans gN
  have m1 : mostOf 1 = 255 := rfl
  have m2 : mostOf 2 = 65535 := rfl
  have m4 : mostOf 4 = 4294967295 := rfl
  have a1 := WGood.new.put magicB
  refine (wraw_spec hS K.nx (K.nx + 1) WSt.new magicB _ (.inl rfl) (by decide)).go wN ?_
  have l1 : (WSt.new.put magicB).data.length = 4 := by rw [a1.data]; rfl
  generalize WSt.new.put magicB = s1 at a1 l1
  simp [hS.P]
  have a2 := a1.num (n := 1) (k := 2) (by omega) (by omega)
  refine (u16_spec hS K.nx (K.nx + 1) s1 1 (by omega)).go (wN.upd _) ?_
  have l2 : (s1.num 1 2).data.length = 6 := by rw [a2.data]; rfl
  generalize s1.num 1 2 = s2 at a2 l2
  have v1 : IntKind.i64.wrap (15 + (B.length : Int)) = 15 + B.length := wrap64 (by omega) (by omega)
  have v2 : IntKind.i64.wrap (15 + (B.length : Int) + 4) = 15 + B.length + 4 := wrap64 (by omega) (by omega)
  simp [hS.P, wN.upd_upd, v1, v2]
  have a3 := a2.num (n := 15 + (B.length : Int) + 4) (k := 4) (by omega) (by omega)
  refine (wu32_spec hS K.nx (K.nx + 1) s2 (15 + (B.length : Int) + 4) (by omega)).go (wN.upd _) ?_
  have l3 : (s2.num (15 + (B.length : Int) + 4) 4).data.length = 10 := by rw [a3.data, List.length_append, beB_len, ← a2.data, l2]
  generalize s2.num (15 + (B.length : Int) + 4) 4 = s3 at a3 l3
  have hid := hin.id
  simp [hS.P, wN.upd_upd, gU]
  have a4 := a3.num (n := p.id) (k := 4) (by omega) (by omega)
  refine (wu32_spec hS K.nx (K.nx + 1) s3 p.id (by omega)).go (wN.upd _) ?_
  have l4 : (s3.num p.id 4).data.length = 14 := by rw [a4.data, List.length_append, beB_len, ← a3.data, l3]
  generalize s3.num p.id 4 = s4 at a4 l4
  simp [hS.P, wN.upd_upd, gU]
  have a5 := a4.put (flagB p.mobile)
  refine (wflag_spec hS K.nx (K.nx + 1) s4 p.mobile (by omega)).go (wN.upd _) ?_
  have l5 : (s4.put (flagB p.mobile)).data.length = 15 := by rw [a5.data, List.length_append, ← a4.data, l4]; rfl
  generalize s4.put (flagB p.mobile) = s5 at a5 l5
  simp [hS.P, wN.upd_upd, gU]
  have a6 := a5.put B
  refine (wraw_spec hS K.nx (K.nx + 1) s5 B _ (.inl rfl) (by omega)).go (wN.upd _) ?_
  have l6 : (s5.put B).data.length = 15 + B.length := by rw [a6.data, List.length_append, ← a5.data, l5]
  generalize s5.put B = s6 at a6 l6
  simp [hS.P, wN.upd_upd, gU]
  refine (wdone_spec hS _ _ s6 (wN.upd s6) (by omega)).mono ?_
  intro v K2 hv
  rw [hv.1, hv.2]
  clear hv v K2
  have hpB : ([] ++ magicB ++ beB 1 2 ++ beB (15 + (B.length : Int) + 4) 4 ++ beB p.id 4 ++ flagB p.mobile ++ B) = planB p := by rw [← hB]; rfl
  rw [hpB] at a6
  simp [hS.P, WSt.done, a6.out, a6.err, encErr, encBytes]
  refine (seal_spec hS (planB p) (by rw [← a6.data]; omega)).go ?_
  simp
  exact Leave.data (WS.keeps f1 f2 kN) (by simp) ⟨by simp [bytesAns, planErr, he, encErr, sealB, encBytes], rfl⟩
end Go.Proofs.YtndoembhbfiokaaGreatDoor.Am
set_option linter.unusedVariables false
set_option linter.unusedSimpArgs false
namespace Go.Proofs.YtndoembhbfiokaaGreatDoor.Am
open Go.RowKit Go.Proofs

/-! ### A partition's state as data -/
structure ProcS where
  regs : List Int
  pc : Int
  state : Int
  prio : Int
  wait : Int
  obj : Int
structure TimerS where
  proc : Int
  due : Int
structure PortS where
  msgs : List (List UInt8)
  age : Int
structure PageS where
  rights : Int
  dirty : Bool
  data : List UInt8
structure StateD where
  id : Int
  frame : Int
  epoch : Int
  procs : List ProcS
  ready : List Int
  timers : List TimerS
  up : List Bool
  sems : List Int
  ports : List PortS
  pages : List PageS
def encU32 (n : Int) : AV := .int .u32 n
def encStr (s : List UInt8) : AV := .str s
def encProcS (p : ProcS) : AV := .agg (p.regs.map encU32 ++ [.int .u32 p.pc, .int .i64 p.state, .int .i64 p.prio, .int .i64 p.wait, .int .i64 p.obj])
def encTimerS (t : TimerS) : AV := .agg [.int .i64 t.proc, .int .i64 t.due]
def encPortS (p : PortS) : AV := .agg [.fsl (p.msgs.map encStr), .int .i64 p.age]
def encPageS (p : PageS) : AV := .agg (.int .i64 p.rights :: .bool p.dirty :: p.data.map encB)
def stateCells (s : StateD) : List AV := [.int .i64 s.id, .int .i64 s.frame, .int .i64 s.epoch, .fsl (s.procs.map encProcS), .fsl (s.ready.map encInt), .fsl (s.timers.map encTimerS), .fsl (s.up.map AV.bool), .fsl (s.sems.map encInt), .fsl (s.ports.map encPortS), .fsl (s.pages.map encPageS)]
def encState (s : StateD) : AV := .agg (stateCells s)
@[simp] theorem encU32_cells (n : Int) : (encU32 n).cells = [encU32 n] := rfl
@[simp] theorem encU32_data (n : Int) : (encU32 n).Data := by simp [encU32]
@[simp] theorem encStr_cells (n : List UInt8) : (encStr n).cells = [encStr n] := rfl
@[simp] theorem encStr_data (n : List UInt8) : (encStr n).Data := by simp [encStr]
@[simp] theorem encProcS_cells (p : ProcS) : (encProcS p).cells = p.regs.map encU32 ++ [.int .u32 p.pc, .int .i64 p.state, .int .i64 p.prio, .int .i64 p.wait, .int .i64 p.obj] := rfl
@[simp] theorem encTimerS_cells (t : TimerS) : (encTimerS t).cells = [.int .i64 t.proc, .int .i64 t.due] := rfl
@[simp] theorem encPortS_cells (p : PortS) : (encPortS p).cells = [.fsl (p.msgs.map encStr), .int .i64 p.age] := rfl
@[simp] theorem encPageS_cells (p : PageS) : (encPageS p).cells = .int .i64 p.rights :: .bool p.dirty :: p.data.map encB := rfl
@[simp] theorem encState_cells (s : StateD) : (encState s).cells = [.int .i64 s.id, .int .i64 s.frame, .int .i64 s.epoch, .fsl (s.procs.map encProcS), .fsl (s.ready.map encInt), .fsl (s.timers.map encTimerS), .fsl (s.up.map AV.bool), .fsl (s.sems.map encInt), .fsl (s.ports.map encPortS), .fsl (s.pages.map encPageS)] := rfl
@[simp] theorem encState_good (s : StateD) : (encState s).good = true := rfl
@[simp] theorem encState_isAgg (s : StateD) : (encState s).isAgg = true := rfl
@[simp] theorem encProcS_good (s : ProcS) : (encProcS s).good = true := rfl
@[simp] theorem encPageS_good (s : PageS) : (encPageS s).good = true := rfl
@[simp] theorem encPortS_good (s : PortS) : (encPortS s).good = true := rfl
@[simp] theorem encTimerS_good (s : TimerS) : (encTimerS s).good = true := rfl
theorem in_map {A : Type} {f : A → AV} (h : ∀ a, ∀ c ∈ (f a).cells, AV.Data c) (l : List A) : AV.Data (.fsl (l.map f)) := by
  rw [data_fsl]; rintro x hx c hc
  obtain ⟨a, _, rfl⟩ := List.mem_map.1 hx
  exact h a c hc
theorem procS_in (p : ProcS) : ∀ c ∈ (encProcS p).cells, AV.Data c := by
  intro c hc
  rw [encProcS_cells] at hc
  rcases List.mem_append.1 hc with hc | hc
  · obtain ⟨a, _, rfl⟩ := List.mem_map.1 hc; simp
  · simp at hc; rcases hc with rfl | rfl | rfl | rfl | rfl <;> simp
theorem portS_in (p : PortS) : ∀ c ∈ (encPortS p).cells, AV.Data c := by
  intro c hc
  simp at hc
  rcases hc with rfl | rfl
  · exact in_map (fun a c hc => by simp at hc; subst hc; simp) _
  · simp
theorem pageS_in (p : PageS) : ∀ c ∈ (encPageS p).cells, AV.Data c := by
  intro c hc
  simp at hc
  rcases hc with rfl | rfl | ⟨b, _, rfl⟩ <;> simp
@[simp] theorem encState_data (s : StateD) : (encState s).Data := by
  simp only [encState, stateCells, data_agg]
  intro x hx
  simp only [List.mem_cons, List.not_mem_nil, or_false] at hx
  rcases hx with rfl | rfl | rfl | rfl | rfl | rfl | rfl | rfl | rfl | rfl
  · simp
  · simp
  · simp
  · exact in_map procS_in _
  · exact in_map (fun a c hc => by simp [encInt] at hc; subst hc; simp) _
  · exact in_map (fun a c hc => by simp at hc; rcases hc with rfl | rfl <;> simp) _
  · exact in_map (fun a c hc => by simp [AV.cells] at hc; subst hc; simp) _
  · exact in_map (fun a c hc => by simp [encInt] at hc; subst hc; simp) _
  · exact in_map portS_in _
  · exact in_map pageS_in _
/-- What a plan boots. -/
def bootProc (x : ProcD) : ProcS := ⟨List.replicate 16 0, x.entry, if x.auto = true then 1 else 0, x.prio, 0, 0⟩
def bootPage (x : PageD) : PageS := ⟨x.rights, false, x.init ++ List.replicate (64 - x.init.length) 0⟩
/-- The places of the processes that begin ready. -/
def readyL : List ProcD → Nat → List Int
  | [], _ => []
  | x :: l, i => if x.auto = true then (i : Int) :: readyL l (i + 1) else readyL l (i + 1)
theorem readyL_append : ∀ (l : List ProcD) (i : Nat) (x : ProcD), readyL (l ++ [x]) i = readyL l i ++ if x.auto = true then [((i + l.length : Nat) : Int)] else []
  | [], i, x => by simp [readyL]
  | y :: l, i, x => by
    have ih := readyL_append l (i + 1) x
    have e : i + 1 + l.length = i + (y :: l).length := by simp; omega
    simp only [List.cons_append, readyL, ih, e]
    split <;> simp
theorem readyL_take {l : List ProcD} {n : Nat} {x : ProcD} (h : l[n]? = some x) : readyL (l.take (n + 1)) 0 = readyL (l.take n) 0 ++ if x.auto = true then [(n : Int)] else [] := by
  have hn := (List.getElem?_eq_some_iff.1 h).1
  have : l.take (n + 1) = l.take n ++ [x] := by simp [List.take_add_one, h]
  rw [this, readyL_append]
  simp [Nat.min_eq_left (Nat.le_of_lt hn)]
theorem readyL_len : ∀ (l : List ProcD) (i : Nat), (readyL l i).length ≤ l.length
  | [], _ => by simp [readyL]
  | x :: l, i => by
    have := readyL_len l (i + 1)
    simp only [readyL]; split <;> simp <;> omega
def bootD (p : PlanD) : StateD := ⟨p.id, 0, 0, p.procs.map bootProc, readyL p.procs 0, [], List.replicate p.events.toNat false, p.sems, List.replicate p.ports.length ⟨[], 0⟩, p.pages.map bootPage⟩
def zeroD : StateD := ⟨0, 0, 0, [], [], [], [], [], [], []⟩
theorem cloneInts_spec {X : Ctx} (hS : Sent X) (l : List Int) (hl : l.length ≤ 1073741824) : ACalc X 25 [.fsl (l.map encInt)] (.fsl (l.map encInt)) := by
  intro H
  refine acalls (N := 8) (rs := [.tmp 2]) (by rw [hS.P]; exact Tryz.func25) rfl rfl rfl (by decide) (by simp) ?_
  refine AWp.seq (aC_sound (lv := []) _ _ _ _ ?_)
  simp [entryR]
  refine AWp.seq (AWp.isNil (.fsl (l.map encInt)) rfl rfl (e := 3) (by rw [hS.P]; exact Tryz.underlying25) (by decide) (by decide) fun b hb => aC_sound (lv := []) _ _ _ _ ?_)
  cases b with
  | true =>
    obtain rfl : l = [] := by
      cases l with
      | nil => rfl
      | cons x l => simp at hb
    simp
    exact Leave.le (v' := .fsl []) (Le.csl []) (Leave.data (keeps_refl H) (by simp) (by simp))
  | false =>
    simp
    refine aC_sound (lv := []) _ _ _ _ ?_
    simp [hS.P]
    refine aIf_mk ⟨fun a _ => by simp [encInt], by omega⟩ ?_
    simp
    exact Leave.data (keeps_refl H) (in_map (fun a c hc => by simp [encInt] at hc; subst hc; simp) _) (by simp)
end Go.Proofs.YtndoembhbfiokaaGreatDoor.Am
/- A call that only reads: rows that are still to be written are lent to it as data, and are what they were afterwards. -/
set_option linter.unusedVariables false
set_option linter.unusedSimpArgs false
namespace Go.Proofs.YtndoembhbfiokaaGreatDoor.Am
open Go.RowKit

/-- A value without data: it stands whatever may be written. -/
inductive AV.Nw (p : Nat → Prop) : AV → Prop
  | any : AV.Nw p .any
  | bool (b : Bool) : AV.Nw p (.bool b)
  | int (k : IntKind) (n : Int) : AV.Nw p (.int k n)
  | str (l : List UInt8) : AV.Nw p (.str l)
  | nilp : AV.Nw p .nilp
  | ptr (id ver i off : Nat) (h : p id) : AV.Nw p (.ptr id ver i off)
  | opq (k : Nat) : AV.Nw p (.opq k)
  | gptr (g : Nat) : AV.Nw p (.gptr g)
  | sl (id ver off len : Nat) (h : p id) : AV.Nw p (.sl id ver off len)
  | asl (id ver i off len : Nat) (h : p id) : AV.Nw p (.asl id ver i off len)
  | fsl : AV.Nw p (.fsl [])
  | csl : AV.Nw p (.csl [])
  | nilf : AV.Nw p .nilf
  | iface (t : TypeId) (v : AV) (h : AV.Nw p v) : AV.Nw p (.iface t v)
  | nili : AV.Nw p .nili
  | agg (cs : List AV) (h : ∀ x ∈ cs, AV.Nw p x) : AV.Nw p (.agg cs)
  | tup (cs : List AV) (h : ∀ x ∈ cs, AV.Nw p x) : AV.Nw p (.tup cs)
theorem AV.Nw.mono {p q : Nat → Prop} (h : ∀ i, p i → q i) {v : AV} (hv : AV.Nw p v) : AV.Nw q v := by
  induction hv with
  | any => exact .any
  | bool b => exact .bool b
  | int k n => exact .int k n
  | str l => exact .str l
  | nilp => exact .nilp
  | ptr id ver i off hp => exact .ptr id ver i off (h _ hp)
  | opq k => exact .opq k
  | gptr g => exact .gptr g
  | sl id ver off len hp => exact .sl id ver off len (h _ hp)
  | asl id ver i off len hp => exact .asl id ver i off len (h _ hp)
  | fsl => exact .fsl
  | csl => exact .csl
  | nilf => exact .nilf
  | iface t v _ ih => exact .iface t v ih
  | nili => exact .nili
  | agg cs _ ih => exact .agg cs ih
  | tup cs _ ih => exact .tup cs ih
theorem VRel.nw {μ μ' : Mu} {ρ : Nat → Value} {L L' : LV} {w : World} {v : AV} {c : Value} (h : VRel μ ρ L w v c) {p : Nat → Prop}
    (hμ : ∀ i ver x, p i → μ i ver = some x → μ' i ver = some x) (hU : ∀ i, p i → L'.ids i) (hp : AV.Nw p v) : VRel μ' ρ L' w v c := by
  induction h with
  | any v => exact .any v
  | bool b => exact .bool b
  | int k n => exact .int k n
  | str s => exact .str _
  | nilp => exact .nilp
  | ptr id ver i off b sz h => cases hp with | ptr _ _ _ _ hp => exact .ptr id ver i off b sz (hμ _ _ _ hp h)
  | eptr xs i off b o sz f hLb hb hz hc hr ih => cases hp
  | opq k => exact .opq k
  | gptr g => exact .gptr g
  | sl0 id ver off a _ => cases hp with | sl _ _ _ _ hp => exact .sl0 id ver off a (hU _ hp)
  | sl id ver off len b sz cap e n h hlen hs hcap => cases hp with | sl _ _ _ _ hp => exact .sl id ver off len b sz cap e n (hμ _ _ _ hp h) hlen hs hcap
  | asl id ver i off len b sz cap h hlen hcap => cases hp with | asl _ _ _ _ _ hp => exact .asl id ver i off len b sz cap (hμ _ _ _ hp h) hlen hcap
  | fsl0 a cap => exact .fsl0 a cap
  | fsl xs b o sz cap f hLb hb hcap hz hc hr ih => cases hp with | fsl => exact .fsl0 _ cap
  | csl0 a => exact .csl0 a
  | csl xs b o sz f hLb hb hz hc hr ih => cases hp with | csl => exact .csl0 _
  | func fn fs cs F C hF hC hf hc ihf ihc => cases hp
  | nilf => exact .nilf
  | iface t v c h ih => cases hp with | iface _ _ hp => exact .iface t v _ (ih hp)
  | nili => exact .nili
  | agg cs C hC hc ih => cases hp with | agg _ hp => exact .agg cs C hC fun j h1 h2 => ih j h1 h2 (hp _ (List.getElem_mem h1))
  | tup cs C hC hc ih => cases hp with | tup _ hp => exact .tup cs C hC fun j h1 h2 => ih j h1 h2 (hp _ (List.getElem_mem h1))
  | map id b sz h => cases hp

def Slot.Nw (p : Nat → Prop) : Slot → Prop
  | .row xs _ _ => ∀ x ∈ xs, ∀ c ∈ x.cells, AV.Nw p c
  | .mapo _ => False
  | _ => True
def Slot.killed : Slot → Slot
  | .free => .free
  | _ => .dead
/-- All that is there is closed. -/
def AH.deadAll (H : AH) : AH := ⟨H.nx, fun i => (H.get i).killed, fun i hi => by rw [H.wf i hi]; rfl⟩
theorem killed_free {s : Slot} : s.killed = .free ↔ s = .free := by cases s <;> simp [Slot.killed]
theorem deadAll_get (H : AH) (i : Nat) : H.deadAll.get i = (H.get i).killed := rfl
theorem deadAll_dead {H : AH} {i : Nat} (h : H.get i ≠ .free) : H.deadAll.get i = .dead := by
  rw [deadAll_get]; cases hs : H.get i <;> simp_all [Slot.killed]
theorem deadAll_live (μ : Mu) (H : AH) (b : Nat) : ¬ Live μ H.deadAll b := by
  rintro ⟨i, hi⟩
  have : H.deadAll i = (H.get i).killed := rfl
  rw [this] at hi
  cases hs : H.get i <;> simp [hs, Slot.killed, blk] at hi
/-- What was there, and what came anew. -/
def AH.merge (H K : AH) : AH :=
  ⟨max H.nx K.nx, fun i => match H.get i with | .free => K.get i | s => s, fun i hi => by
    rw [H.wf i (by omega)]; exact K.wf i (by omega)⟩
theorem merge_old {H K : AH} {i : Nat} (h : H.get i ≠ .free) : (H.merge K).get i = H.get i := by
  show (match H.get i with | .free => K.get i | s => s) = _
  cases hs : H.get i <;> simp_all
theorem merge_new {H K : AH} {i : Nat} (h : H.get i = .free) : (H.merge K).get i = K.get i := by
  show (match H.get i with | .free => K.get i | s => s) = _
  rw [h]
section
variable {X : Ctx}
theorem WRel.deadAll {μ : Mu} {ρ : Nat → Value} {w0 w : World} {H : AH} (hW : WRel X μ ρ w0 H w) : Ext μ (Live μ H) w μ (Live μ H.deadAll) w ∧ WRel X μ ρ w0 H.deadAll w := by
  refine ⟨⟨fun _ _ _ h => h, Nat.le_refl _, fun _ _ _ => rfl, fun _ _ => rfl, fun b hb => absurd hb (deadAll_live μ H b), fun i hi h => hi (killed_free.1 h)⟩, hW.ok, hW.below, fun i => ?_, fun i j b hi => absurd (⟨i, hi⟩ : Live μ H.deadAll b) (deadAll_live μ H b)⟩
  have hs := hW.slot i
  show SlotOK _ _ _ _ _ _ ((H.get i).killed)
  cases h : H.get i with
  | free => rw [h] at hs; exact hs
  | dead => trivial
  | row xs sz ver => trivial
  | mapo es => trivial

structure NewOK (H : AH) (v : AV) (K : AH) : Prop where
  val : AV.Nw (fun k => H.get k = .free ∧ K.get k ≠ .free) v
  old : ∀ i, H.get i ≠ .free → K.get i = .dead
  new : ∀ i, H.get i = .free → (K.get i).Nw fun k => H.get k = .free ∧ K.get k ≠ .free
open Classical in
theorem ACalls.borrow {f : FuncId} {args args' : List AV} {H : AH} {Q : AV → AH → Prop}
    (hf : ∀ μ ρ w0 w A, WRel X μ ρ w0 H w → CRel μ ρ (Live μ H) w args A → CRel μ ρ (Live μ H.deadAll) w args' A) (h : ACalls X f args' H.deadAll Q) (hQ : ∀ v K, Q v K → NewOK H v K) :
    ACalls X f args H fun v M => ∃ K, Q v K ∧ M = H.merge K := by
  refine ⟨h.1, fun μ ρ w0 w A hW hA => (h.2 μ ρ w0 w A hW.deadAll.2 (hf μ ρ w0 w A hW hA)).mono ?_⟩
  rintro e w' ⟨c, v, K, μ', he, hq, hx, hR, hv⟩
  obtain ⟨n1, n2, n3⟩ := hQ v K hq
  have hfree : ∀ i, H.get i = .free → ∀ ver, μ i ver = none := fun i hi ver => by
    have := hW.slot i
    rw [hi] at this
    exact this ver
  let μ2 : Mu := fun i ver => if H.get i = .free then μ' i ver else μ i ver
  have m1 : ∀ i, H.get i = .free → μ2 i = μ' i := fun i hi => by funext ver; simp [μ2, hi]
  have m2 : ∀ i, H.get i ≠ .free → μ2 i = μ i := fun i hi => by funext ver; simp [μ2, hi]
  have b1 : ∀ i, H.get i = .free → ∀ s, blk μ2 i s = blk μ' i s := fun i hi s => by cases s <;> simp [blk, m1 i hi]
  have b2 : ∀ i, H.get i ≠ .free → ∀ s, blk μ2 i s = blk μ i s := fun i hi s => by cases s <;> simp [blk, m2 i hi]
  have hsame : ∀ b, b < w.heap.size → w'.heap[b]? = w.heap[b]? := fun b hb => hx.same b hb (deadAll_live μ H b)
  have E : Ext μ (Live μ H) w μ2 (Live μ2 (H.merge K)) w' := by
    refine ⟨fun i ver x hi => ?_, hx.size, fun b hb _ => hsame b hb, hx.shape, fun b hb => ?_, fun i hi => ?_⟩
    · by_cases hfr : H.get i = .free
      · rw [hfree i hfr ver] at hi; cases hi
      · rw [m2 i hfr]; exact hi
    · obtain ⟨i, hi⟩ := hb
      change blk μ2 i ((H.merge K).get i) = some b at hi
      by_cases hfr : H.get i = .free
      · rw [merge_new hfr, b1 i hfr] at hi
        exact .inr ((hx.live b ⟨i, hi⟩).resolve_left (deadAll_live μ H b))
      · rw [merge_old hfr, b2 i hfr] at hi
        exact .inl ⟨i, hi⟩
    · show (H.merge K).get i ≠ .free
      have hi : H.get i ≠ .free := hi
      rw [merge_old hi]; exact hi
  have hnw : ∀ {v : AV} {c : Value}, AV.Nw (fun k => H.get k = .free ∧ K.get k ≠ .free) v → VRel μ' ρ (Live μ' K) w' v c → VRel μ2 ρ (Live μ2 (H.merge K)) w' v c := fun hn hv =>
    hv.nw (fun i ver x hp hi => by rw [m1 i hp.1]; exact hi) (fun i hp => by show (H.merge K).get i ≠ .free; rw [merge_new hp.1]; exact hp.2) hn
  have Wr : WRel X μ2 ρ w0 (H.merge K) w' := by
    refine ⟨hW.ok, hR.below, fun i => ?_, fun i j b hi hj => ?_⟩
    · by_cases hfr : H.get i = .free
      · have hs := hR.slot i
        have hn := n3 i hfr
        show SlotOK _ _ _ _ _ _ ((H.merge K).get i)
        rw [merge_new hfr]
        cases hk : K.get i with
        | free => rw [hk] at hs; intro ver; rw [m1 i hfr]; exact hs ver
        | dead => trivial
        | row xs sz ver =>
          rw [hk] at hs hn
          refine ⟨fun v hv => by rw [m1 i hfr]; exact hs.1 v hv, ?_⟩
          rcases hs.2 with ⟨h0, h⟩ | ⟨b, C, e, fz, h1, h2, h3, h4, h5, h6, h7⟩
          · exact .inl ⟨h0, by rw [m1 i hfr]; exact h⟩
          · refine .inr ⟨b, C, e, fz, by rw [m1 i hfr]; exact h1, h2, h3, h4, h5, h6, fun j hj q hq => ?_⟩
            obtain ⟨c, hc, hr⟩ := h7 j hj q hq
            exact ⟨c, hc, hnw (hn _ (List.getElem_mem hj) _ (List.getElem_mem hq)) hr⟩
        | mapo es => rw [hk] at hn; exact hn.elim
      · show SlotOK _ _ _ _ _ _ ((H.merge K).get i)
        rw [merge_old hfr]
        exact (hW.slot i).mono E (fun ver => by rw [m2 i hfr]) fun b hb => hsame b ((hW.slot i).blk_ge hb).2
    · change blk μ2 i ((H.merge K).get i) = some b at hi
      change blk μ2 j ((H.merge K).get j) = some b at hj
      by_cases hfi : H.get i = .free
      · rw [merge_new hfi, b1 i hfi] at hi
        have li := (hx.live b ⟨i, hi⟩).resolve_left (deadAll_live μ H b)
        by_cases hfj : H.get j = .free
        · rw [merge_new hfj, b1 j hfj] at hj
          exact hR.inj i j b hi hj
        · rw [merge_old hfj, b2 j hfj] at hj
          have := ((hW.slot j).blk_ge hj).2
          omega
      · rw [merge_old hfi, b2 i hfi] at hi
        have li := ((hW.slot i).blk_ge hi).2
        by_cases hfj : H.get j = .free
        · rw [merge_new hfj, b1 j hfj] at hj
          have := (hx.live b ⟨j, hj⟩).resolve_left (deadAll_live μ H b)
          omega
        · rw [merge_old hfj, b2 j hfj] at hj
          exact hW.inj i j b hi hj
  exact ⟨c, v, H.merge K, μ2, he, ⟨K, hq, rfl⟩, E, Wr, hnw n1 hv⟩

/-- How an argument looks when all rows are closed. -/
def Bor (X : Ctx) (H : AH) (a a' : AV) : Prop := ∀ μ ρ w0 w c, WRel X μ ρ w0 H w → VRel μ ρ (Live μ H) w a c → VRel μ ρ (Live μ H.deadAll) w a' c
theorem Bor.same {H : AH} (a : AV) : Bor X H a a := fun μ ρ w0 w c hW h => h.mono hW.deadAll.1
theorem Bor.sl {H : AH} {q ver sz len : Nat} {zs : List AV} (hH : H.get q = .row zs sz ver) (hl : zs.length = len) : Bor X H (.sl q ver 0 len) (.fsl zs) := fun μ ρ w0 w c hW h => by
  obtain ⟨h1, h2, h3⟩ := freeze hW hH
  refine (h3 _ _ (Frz.all hl) c h).mono ⟨fun _ _ _ h => h, Nat.le_refl _, fun _ _ _ => rfl, fun _ _ => rfl, fun b hb => absurd hb (deadAll_live μ H b), fun i hi h => ?_⟩
  have hfr : H.get i = .free := killed_free.1 h
  by_cases e : i = q
  · subst e; rw [hH] at hfr; cases hfr
  · exact hi (by rw [AH.put_ne _ _ e]; exact hfr)
def BorL (X : Ctx) (H : AH) : List AV → List AV → Prop
  | [], [] => True
  | x :: l, y :: m => Bor X H x y ∧ BorL X H l m
  | _, _ => False
theorem BorL.get {H : AH} : ∀ {l m : List AV}, BorL X H l m → l.length = m.length ∧ ∀ (j : Nat) (y : AV), m[j]? = some y → ∃ x, l[j]? = some x ∧ Bor X H x y
  | [], [], _ => ⟨rfl, fun j y h => by simp at h⟩
  | x :: l, y :: m, h => by
    obtain ⟨h1, h2⟩ := BorL.get h.2
    refine ⟨by simp [h1], fun j z hz => ?_⟩
    rcases j with _ | j
    · simp at hz; subst hz; exact ⟨x, rfl, h.1⟩
    · exact h2 j z (by simpa using hz)
  | [], _ :: _, h => h.elim
  | _ :: _, [], h => h.elim
theorem Bor.agg {H : AH} {cs cs' : List AV} (h : BorL X H cs cs') : Bor X H (.agg cs) (.agg cs') := fun μ ρ w0 w c hW hv => by
  obtain ⟨h1, h2⟩ := h.get
  cases hv with
  | agg _ C hC hc =>
    refine .agg cs' C (by omega) fun j hj hj' => ?_
    obtain ⟨x, hx, hb⟩ := h2 j _ (List.getElem?_eq_getElem hj)
    obtain ⟨hjx, hx⟩ := List.getElem?_eq_some_iff.1 hx
    subst hx
    exact hb μ ρ w0 w _ hW (hc j hjx hj')
theorem Bor.le {H : AH} {a b c : AV} (h : Bor X H a b) (k : Le b c) : Bor X H a c := fun μ ρ w0 w v hW hv => k _ _ _ _ _ (h μ ρ w0 w v hW hv)
theorem BorL.args {H : AH} {args args' : List AV} (h : BorL X H args args') : ∀ μ ρ w0 w A, WRel X μ ρ w0 H w → CRel μ ρ (Live μ H) w args A → CRel μ ρ (Live μ H.deadAll) w args' A := fun μ ρ w0 w A hW hA => by
  obtain ⟨h1, h2⟩ := h.get
  refine ⟨by rw [hA.1, h1], fun j y hy => ?_⟩
  obtain ⟨x, hx, hb⟩ := h2 j y hy
  obtain ⟨c, hc, hr⟩ := hA.2 j x hx
  exact ⟨c, hc, hb μ ρ w0 w c hW hr⟩
/-- A call that only computes, of a value without data. -/
theorem ACalc.lend {f : FuncId} {args args' : List AV} {v : AV} (h : ACalc X f args' v) {H : AH} (hb : BorL X H args args') (hv : AV.Nw (fun _ => False) v) {K : AV → AH → Prop} (hK : K v H) : ACalls X f args H K := by
  refine (ACalls.borrow hb.args (h H.deadAll) ?_).mono ?_
  · rintro _ _ ⟨rfl, rfl⟩
    refine ⟨hv.mono fun _ h => h.elim, fun i hi => deadAll_dead hi, fun i hi => ?_⟩
    rw [deadAll_get, hi]; trivial
  · rintro _ _ ⟨_, ⟨rfl, rfl⟩, rfl⟩
    have : H.merge H.deadAll = H := by
      refine AH.ext' (show max H.nx H.nx = H.nx by omega) fun i => ?_
      by_cases hfr : H.get i = .free
      · rw [merge_new hfr, deadAll_get, hfr]; rfl
      · rw [merge_old hfr]
    rw [this]; exact hK

/-- A new row's identity is a name: another free one serves as well. -/
theorem Leave.rename {H0 : AH} {j id0 sz ver n : Nat} {zs : List AV} {Q : AV → AH → Prop} (hj : H0.get j = .free) (hi : H0.get id0 = .free) (hz : ∀ x ∈ zs, ∀ c ∈ x.cells, AV.Data c)
    (hQ : Q (.sl id0 ver 0 n) (H0.put id0 (.row zs sz ver))) : Leave X H0 (.sl j ver 0 n) (H0.put j (.row zs sz ver)) Q := by
  by_cases hji : j = id0
  · subst hji; exact Leave.stay hQ
  intro μ0 ρ w0 wa μ w c hW0 hx hW hv
  have hput : (H0.put j (.row zs sz ver)).get j = .row zs sz ver := AH.put_same _ _ _
  have hold : ∀ i, i ≠ j → (H0.put j (.row zs sz ver)).get i = H0.get i := fun i h => AH.put_ne _ _ h
  let μ2 : Mu := fun i v => if i = id0 then μ j v else if i = j then none else μ i v
  have m0 : μ2 id0 = μ j := by funext v; simp [μ2]
  have m1 : ∀ i, i ≠ id0 → i ≠ j → μ2 i = μ i := fun i h h' => by funext v; simp [μ2, h, h']
  have mj : ∀ v, μ2 j v = none := fun v => by simp [μ2, hji]
  have hused : ∀ i v x, μ0 i v = some x → H0.get i ≠ .free := fun i v x h => hW0.mu_used h
  have b0 : ∀ s, blk μ2 id0 s = blk μ j s := fun s => by cases s <;> simp [blk, m0]
  have b1 : ∀ i, i ≠ id0 → i ≠ j → ∀ s, blk μ2 i s = blk μ i s := fun i h h' s => by cases s <;> simp [blk, m1 i h h']
  have M0 : (H0.put id0 (.row zs sz ver)).get id0 = .row zs sz ver := AH.put_same _ _ _
  have M1 : ∀ i, i ≠ id0 → (H0.put id0 (.row zs sz ver)).get i = H0.get i := fun i h => AH.put_ne _ _ h
  -- each block has its identity, before and after
  have hback : ∀ i b, blk μ2 i ((H0.put id0 (.row zs sz ver)).get i) = some b → (i = id0 ∧ blk μ j ((H0.put j (.row zs sz ver)).get j) = some b) ∨ (i ≠ id0 ∧ i ≠ j ∧ blk μ i ((H0.put j (.row zs sz ver)).get i) = some b) := fun i b h => by
    by_cases e : i = id0
    · subst e
      rw [M0, b0] at h
      exact .inl ⟨rfl, by rw [hput]; exact h⟩
    · rw [M1 i e] at h
      have e2 : i ≠ j := fun e2 => by subst e2; rw [hj] at h; simp [blk] at h
      rw [b1 i e e2] at h
      exact .inr ⟨e, e2, by rw [hold i e2]; exact h⟩
  have hlive : ∀ b, Live μ2 (H0.put id0 (.row zs sz ver)) b → Live μ (H0.put j (.row zs sz ver)) b := by
    rintro b ⟨i, h⟩
    rcases hback i b h with ⟨_, h⟩ | ⟨_, _, h⟩
    · exact ⟨j, h⟩
    · exact ⟨i, h⟩
  have E : Ext μ0 (Live μ0 H0) wa μ2 (Live μ2 (H0.put id0 (.row zs sz ver))) w := by
    refine ⟨fun i v x h => ?_, hx.size, hx.same, hx.shape, fun b hb => hx.live b (hlive b hb), fun i h => ?_⟩
    · have hu := hused _ _ _ h
      rw [m1 i (fun e => by subst e; exact hu hi) (fun e => by subst e; exact hu hj)]; exact hx.mu _ _ _ h
    · have h : H0.get i ≠ .free := h
      show (H0.put id0 (.row zs sz ver)).get i ≠ .free
      rw [M1 i (fun e => by subst e; exact h hi)]; exact h
  have hin : ∀ i, (H0.get i).In fun k => H0.get k ≠ .free := fun i => (hW0.slot i).in (fun i v x h => hused i v x h) fun i h => h
  have conv : ∀ {v : AV} {c : Value}, AV.In (fun k => H0.get k ≠ .free) v → VRel μ ρ (Live μ (H0.put j (.row zs sz ver))) w v c → VRel μ2 ρ (Live μ2 (H0.put id0 (.row zs sz ver))) w v c := fun hp hv =>
    hv.back (fun k v x hk h => by rw [m1 k (fun e => by subst e; exact hk hi) (fun e => by subst e; exact hk hj)]; exact h) hlive (fun k hk => by show (H0.put id0 (.row zs sz ver)).get k ≠ .free; rw [M1 k (fun e => by subst e; exact hk hi)]; exact hk) hp
  have hslotj := hW.slot j
  change SlotOK _ _ _ _ _ _ ((H0.put j (.row zs sz ver)).get j) at hslotj
  rw [hput] at hslotj
  have Wr : WRel X μ2 ρ w0 (H0.put id0 (.row zs sz ver)) w := by
    refine ⟨hW0.ok, hW.below, fun i => ?_, fun i k b h1 h2 => ?_⟩
    · show SlotOK _ _ _ _ _ _ ((H0.put id0 (.row zs sz ver)).get i)
      by_cases e : i = id0
      · subst e
        rw [M0]
        refine ⟨fun v h => by rw [m0]; exact hslotj.1 v h, ?_⟩
        rcases hslotj.2 with ⟨h0, h⟩ | ⟨b, C, e, fz, h1, h2, h3, h4, h5, h6, h7⟩
        · exact .inl ⟨h0, by rw [m0]; exact h⟩
        · refine .inr ⟨b, C, e, fz, by rw [m0]; exact h1, h2, h3, h4, h5, h6, fun k hk q hq => ?_⟩
          obtain ⟨c, hc, hr⟩ := h7 k hk q hq
          exact ⟨c, hc, conv ((hz _ (List.getElem_mem hk) _ (List.getElem_mem hq)).mono fun _ h => h.elim) hr⟩
      · rw [M1 i e]
        by_cases e2 : i = j
        · subst e2; rw [hj]; exact mj
        · have hs := hW.slot i
          change SlotOK _ _ _ _ _ _ ((H0.put j (.row zs sz ver)).get i) at hs
          rw [hold i e2] at hs
          have hn := hin i
          cases hsl : H0.get i with
          | free => rw [hsl] at hs; intro v; rw [m1 i e e2]; exact hs v
          | dead => trivial
          | row ys sy vy =>
            rw [hsl] at hs hn
            refine ⟨fun v h => by rw [m1 i e e2]; exact hs.1 v h, ?_⟩
            rcases hs.2 with ⟨h0, h⟩ | ⟨b, C, e', fz, h1, h2, h3, h4, h5, h6, h7⟩
            · exact .inl ⟨h0, by rw [m1 i e e2]; exact h⟩
            · refine .inr ⟨b, C, e', fz, by rw [m1 i e e2]; exact h1, h2, h3, h4, h5, h6, fun k hk q hq => ?_⟩
              obtain ⟨c, hc, hr⟩ := h7 k hk q hq
              exact ⟨c, hc, conv (hn _ (List.getElem_mem hk) _ (List.getElem_mem hq)) hr⟩
          | mapo es =>
            rw [hsl] at hs hn
            obtain ⟨b, sz', E', clock, h1, h2, h3, h4, h5⟩ := hs
            exact ⟨b, sz', E', clock, by rw [m1 i e e2]; exact h1, h2, h3, h4, fun k hk hk' => ⟨conv (hn _ (List.getElem_mem hk)).1 (h5 k hk hk').1, conv (hn _ (List.getElem_mem hk)).2 (h5 k hk hk').2⟩⟩
    · rcases hback i b h1 with ⟨e1, h1⟩ | ⟨e1, e1', h1⟩ <;> rcases hback k b h2 with ⟨e2, h2⟩ | ⟨e2, e2', h2⟩
      · rw [e1, e2]
      · exact absurd (hW.inj j k b h1 h2) (Ne.symm e2')
      · exact absurd (hW.inj i j b h1 h2) e1'
      · exact hW.inj i k b h1 h2
  refine ⟨_, _, μ2, hQ, E, Wr, ?_⟩
  cases hv with
  | sl0 _ _ _ a _ => exact .sl0 id0 ver 0 a (by show (H0.put id0 (.row zs sz ver)).get id0 ≠ .free; rw [M0]; simp)
  | sl _ _ _ _ b sz' cap e n' h hlen hs hcap => exact .sl id0 ver 0 n b sz' cap e n' (by rw [m0]; exact h) hlen hs hcap

/-- New rows that nobody asks for any more are closed. -/
def AH.kill (H : AH) (S : Nat → Bool) : AH := ⟨H.nx, fun i => if S i = true then (H.get i).killed else H.get i, fun i hi => by rw [H.wf i hi]; simp [Slot.killed]⟩
theorem kill_get (H : AH) (S : Nat → Bool) (i : Nat) : (H.kill S).get i = if S i = true then (H.get i).killed else H.get i := rfl
theorem Leave.kill {H0 H : AH} {v : AV} {Q : AV → AH → Prop} (S : Nat → Bool) (h : Leave X H0 v (H.kill S) Q) : Leave X H0 v H Q := by
  intro μ0 ρ w0 wa μ w c hW0 hx hW hv
  have hblk : ∀ i b, blk μ i ((H.kill S).get i) = some b → blk μ i (H.get i) = some b := fun i b h => by
    rw [kill_get] at h
    split at h
    · cases hs : H.get i <;> simp [hs, Slot.killed, blk] at h
    · exact h
  have E : Ext μ (Live μ H) w μ (Live μ (H.kill S)) w := by
    refine ⟨fun _ _ _ h => h, Nat.le_refl _, fun _ _ _ => rfl, fun _ _ => rfl, fun b ⟨i, hi⟩ => .inl ⟨i, hblk i b hi⟩, fun i hi h => ?_⟩
    have h : (H.kill S).get i = .free := h
    rw [kill_get] at h
    split at h
    · exact hi (killed_free.1 h)
    · exact hi h
  refine h μ0 ρ w0 wa μ w c hW0 (hx.trans E) ⟨hW.ok, hW.below, fun i => ?_, fun i j b h1 h2 => hW.inj i j b (hblk i b h1) (hblk j b h2)⟩ (hv.mono E)
  show SlotOK _ _ _ _ _ _ ((H.kill S).get i)
  rw [kill_get]
  have hs := hW.slot i
  split
  · cases hsl : H.get i with
    | free => rw [hsl] at hs; exact hs
    | dead => trivial
    | row xs sz ver => trivial
    | mapo es => trivial
  · exact hs.mono E (fun _ => rfl) fun _ _ => rfl
/-- From one answer of a contract to another. -/
theorem ACalls.leave {f : FuncId} {args : List AV} {H : AH} {Q Q' : AV → AH → Prop} (h : ACalls X f args H Q) (k : ∀ v K, Q v K → Leave X H v K Q') : ACalls X f args H Q' := by
  refine ⟨h.1, fun μ ρ w0 w A hW hA => (h.2 μ ρ w0 w A hW hA).mono ?_⟩
  rintro e w' ⟨c, v, K, μ', he, hq, hx, hR, hv⟩
  obtain ⟨v', H'', μ'', hq', hx', hR', hv'⟩ := k v K hq μ ρ w0 w μ' w' c hW hx hR hv
  exact ⟨c, v', H'', μ'', he, hq', hx', hR', hv'⟩
end
end Go.Proofs.YtndoembhbfiokaaGreatDoor.Am
set_option linter.unusedVariables false
set_option linter.unusedSimpArgs false
namespace Go.Proofs.YtndoembhbfiokaaGreatDoor.Am
open Go.RowKit Go.Proofs

def zeros64 : List AV := List.replicate 64 (.int .u8 0)
@[simp] theorem zeros64_len : zeros64.length = 64 := rfl
theorem zeros_drop (k : Nat) : zeros64.drop k = (List.replicate (64 - k) (0 : UInt8)).map encB := by
  rw [zeros64, List.drop_replicate, List.map_replicate]; rfl
theorem plcPage : plcOf Tryz.prog 73 = some ([(0, 1), (1, 1), (2, 64)], .int .i64 0 :: .bool false :: zeros64) := by kernel_rfl
theorem zePage : zeOf Tryz.prog 73 = some (.agg (.int .i64 0 :: .bool false :: zeros64)) := by kernel_rfl
theorem Le.fslR {xs ys : List AV} (h : LeR xs ys) : Le (.fsl xs) (.fsl ys) := by
  obtain ⟨hl, hg⟩ := h.get
  intro μ ρ L w c hc
  cases hc with
  | fsl0 a cap =>
    obtain rfl : ys = [] := List.eq_nil_of_length_eq_zero (by simpa using hl.symm)
    exact .fsl0 a cap
  | fsl _ b o sz cap f hL hb hcap hz hcc hr =>
    rw [hl]
    refine .fsl ys b o sz cap f hL hb (by omega) (fun j hj => ?_) (fun j hj q hq => hcc j (by omega) q hq) (fun j hj q hq => ?_)
    · obtain ⟨x, hx, h1, _⟩ := hg j _ (List.getElem?_eq_getElem hj)
      obtain ⟨hj', hx⟩ := List.getElem?_eq_some_iff.1 hx
      subst hx
      rw [← h1]; exact hz j hj'
    · obtain ⟨x, hx, h1, h2⟩ := hg j _ (List.getElem?_eq_getElem hj)
      obtain ⟨hj', hx⟩ := List.getElem?_eq_some_iff.1 hx
      subst hx
      exact h2 q _ _ (List.getElem?_eq_getElem (by omega)) (List.getElem?_eq_getElem hq) _ _ _ _ _ (hr j hj' q (by omega))
theorem leR_replicate {x y : AV} (h : x.cells.length = y.cells.length ∧ ∀ (q : Nat) (c c' : AV), x.cells[q]? = some c → y.cells[q]? = some c' → Le c c') : ∀ n : Nat, LeR (List.replicate n x) (List.replicate n y)
  | 0 => trivial
  | n + 1 => ⟨h, leR_replicate h n⟩
theorem aCopy_mk {X : Ctx} {t s id ver i off len sz : Nat} {l : List UInt8} {xs es : List AV} {H : AH} {K : Hid Post} (e b : Nat) (hs : slOf X.P t = some (e, 1, b)) (hH : H.get id = .row xs sz ver) (hx : xs[i]? = some (.agg es)) (hl : off + len ≤ es.length)
    (k : K.out (.int .i64 (Nat.min l.length len)) [id] [(id, .row (xs.set i (.agg (es.take off ++ (l.take len).map encB ++ es.drop (off + (l.take len).length)))) sz ver)]) : hCopy X t s (.asl id ver i off len) (.str l) H (K := K) :=
  ⟨e, b, xs, sz, es, hs, hH, hx, hl, k⟩
/-- Integers copied into memory of the caller's, under any free name. -/
theorem cloneInts_at {X : Ctx} (hS : Sent X) (l : List Int) (hl : l.length ≤ 1073741824) (H : AH) (id0 : Nat) (h0 : H.get id0 = .free) : ACalls X 25 [.fsl (l.map encInt)] H fun v H' => v = .sl id0 0 0 l.length ∧ H' = H.put id0 (.row (l.map encInt) 1 0) := by
  refine acalls (N := 8) (rs := [.tmp 2]) (by rw [hS.P]; exact Tryz.func25) rfl rfl rfl (by decide) (by simp) ?_
  refine AWp.seq (aC_sound (lv := []) _ _ _ _ ?_)
  simp [entryR]
  refine AWp.seq (AWp.isNil (.fsl (l.map encInt)) rfl rfl (e := 3) (by rw [hS.P]; exact Tryz.underlying25) (by decide) (by decide) fun b hb => aC_sound (lv := []) _ _ _ _ ?_)
  cases b with
  | true =>
    obtain rfl : l = [] := by
      cases l with
      | nil => rfl
      | cons x l => simp at hb
    simp
    refine Leave.mat0 1 (Leave.leH (v' := .sl H.nx 0 0 0) (LeH.mat (by simp)) ?_)
    exact Leave.rename (by simp) h0 (by simp) ⟨rfl, rfl⟩
  | false =>
    simp
    refine aC_sound (lv := [7]) _ _ _ _ ?_
    simp [hS.P]
    refine aIf_mk ⟨fun a _ => by simp [encInt], by omega⟩ ?_
    simp
    refine Leave.rename (by simp) h0 ?_ ⟨rfl, rfl⟩
    rintro x hx c hc
    obtain ⟨a, _, rfl⟩ := List.mem_map.1 hx
    simp [encInt] at hc; subst hc; simp
theorem cloneInts_call {X : Ctx} (hS : Sent X) (l : List Int) (hl : l.length ≤ 1073741824) {H : AH} (id0 : Nat) (h0 : H.get id0 = .free) {K : Post} (hK : K (.sl id0 0 0 l.length) [id0] [(id0, .row (l.map encInt) 1 0)]) : aCall X 25 [.fsl (l.map encInt)] H K :=
  ⟨_, _, _, hK, by simp, fun H' hH => cloneInts_at hS l hl H' id0 ((hH id0 (by simp)).trans h0)⟩
def portZero : AV := .agg [.csl [], .int .i64 0]
/-- A state that is being built: its lists are rows of their own. -/
def stC (p : PlanD) (P R G U S O : AV) : List AV := [.int .i64 p.id, .int .i64 0, .int .i64 0, P, R, .csl [], U, S, O, G]
structure BootH (H K : AH) (p : PlanD) (P R G : List AV) : Prop where
  plan : K.get H.nx = .row [encPlan p] 7 0
  zero : K.get (H.nx + 1) = .row [.agg [.int .i64 0, .int .i64 0, .int .i64 0, .csl [], .csl [], .csl [], .csl [], .csl [], .csl [], .csl []]] 10 0
  hu : K.get (H.nx + 2) = .row (List.replicate p.events.toNat (.bool false)) 1 0
  hs : K.get (H.nx + 3) = .row (p.sems.map encInt) 1 0
  ho : K.get (H.nx + 4) = .row (List.replicate p.ports.length portZero) 2 0
  st : K.get (H.nx + 5) = .row [.agg (stC p (.sl (H.nx + 6) P.length 0 P.length) (.sl (H.nx + 7) R.length 0 R.length) (.sl (H.nx + 8) G.length 0 G.length) (.sl (H.nx + 2) 0 0 p.events.toNat) (.sl (H.nx + 3) 0 0 p.sems.length) (.sl (H.nx + 4) 0 0 p.ports.length))] 10 0
  hp : K.get (H.nx + 6) = .row P 21 P.length
  hr : K.get (H.nx + 7) = .row R 1 R.length
  hg : K.get (H.nx + 8) = .row G 66 G.length
  keep : ∀ i, H.get i ≠ .free → K.get i = H.get i
/-- The new rows that the state names. -/
def bootIds (H : AH) (i : Nat) : Bool := i == H.nx + 2 || i == H.nx + 3 || i == H.nx + 4 || i == H.nx + 6 || i == H.nx + 7 || i == H.nx + 8
open Classical in
/-- What is new since `H`, but for what `B` keeps. -/
noncomputable def newS (H : AH) (B : Nat → Bool) (i : Nat) : Bool := decide (H.get i = .free) && !B i
theorem newS_old {H : AH} {B : Nat → Bool} {i : Nat} (h : H.get i ≠ .free) : newS H B i = false := by simp [newS, h]
theorem newS_kept {H : AH} {B : Nat → Bool} {i : Nat} (h : B i = true) : newS H B i = false := by simp [newS, h]
theorem newS_new {H : AH} {B : Nat → Bool} {i : Nat} (h : H.get i = .free) (hb : B i = false) : newS H B i = true := by simp [newS, h, hb]
@[simp] theorem killed_killed (s : Slot) : s.killed.killed = s.killed := by cases s <;> rfl
structure BootLive (H : AH) (p : PlanD) (v : AV) (K : AH) : Prop where
  val : v = .tup [.agg (stC p (.sl (H.nx + 6) p.procs.length 0 p.procs.length) (.sl (H.nx + 7) (readyL p.procs 0).length 0 (readyL p.procs 0).length) (.sl (H.nx + 8) p.pages.length 0 p.pages.length) (.sl (H.nx + 2) 0 0 p.events.toNat) (.sl (H.nx + 3) 0 0 p.sems.length) (.sl (H.nx + 4) 0 0 p.ports.length)), .nili]
  hu : K.get (H.nx + 2) = .row (List.replicate p.events.toNat (.bool false)) 1 0
  hs : K.get (H.nx + 3) = .row (p.sems.map encInt) 1 0
  ho : K.get (H.nx + 4) = .row (List.replicate p.ports.length portZero) 2 0
  hp : K.get (H.nx + 6) = .row ((p.procs.map bootProc).map encProcS) 21 p.procs.length
  hr : K.get (H.nx + 7) = .row ((readyL p.procs 0).map encInt) 1 (readyL p.procs 0).length
  hg : K.get (H.nx + 8) = .row ((p.pages.map bootPage).map encPageS) 66 p.pages.length
  keep : ∀ i, H.get i ≠ .free → K.get i = H.get i
  rest : ∀ i, H.get i = .free → bootIds H i = false → (K.get i).killed = K.get i
theorem planBoot_live {X : Ctx} (hS : Sent X) (p : PlanD) (hp : p.Small) (he : planE p = .none) (H : AH) : ACalls X 6 [encPlan p] H (BootLive H p) := by
  refine acalls' (N := 82) (rs := [.cell 2 39, .tmp 3]) [20, 27, 50, 56, 78] (by rw [hS.P]; exact Tryz.func6) rfl rfl rfl (by decide) (by simp) ?_
  have f : ∀ k, H.get (H.nx + k) = .free := fun k => AH.free_add H k
  simp [entryR, hS.P]
  refine (planCheck_spec hS p hp).go ?_
  have hin := planIn he
  have h1 := hin.pages; have h2 := hin.procs; have h3 := hin.ports; have h4 := hin.sems; have h5 := hin.events
  simp [hS.P, he, encErr]
  generalize hK : (AH.put _ (H.nx + 1) _) = K
  have g0 : K.get H.nx = .row [encPlan p] 7 0 := by rw [← hK]; simp
  have g1 : K.get (H.nx + 1) = .row [.agg [.int .i64 0, .int .i64 0, .int .i64 0, .csl [], .csl [], .csl [], .csl [], .csl [], .csl [], .csl []]] 10 0 := by rw [← hK]; simp
  have hk : ∀ i, H.get i ≠ .free → K.get i = H.get i := by rw [← hK]; exact put_keeps (f 1) (put_keeps (by simp) (keeps_refl H))
  have hKn : K.nx = H.nx + 2 := by rw [← hK, AH.nx_put, AH.nx_fresh, if_neg (by omega)]
  have hf : ∀ k, K.get (H.nx + 2 + k) = .free := fun k => K.wf _ (by omega)
  have hf0 : K.get (H.nx + 2) = .free := hf 0
  have hf1 : K.get (H.nx + 3) = .free := hf 1
  have hf2 : K.get (H.nx + 4) = .free := hf 2
  have hf3 : K.get (H.nx + 5) = .free := hf 3
  have x1 : ∀ s, (K.put (H.nx + 2) s).nx = H.nx + 3 := fun s => by rw [AH.nx_put, hKn, if_neg (by omega)]
  have x2 : ∀ s t, ((K.put (H.nx + 2) s).put (H.nx + 3) t).nx = H.nx + 4 := fun s t => by rw [AH.nx_put, x1, if_neg (by omega)]
  have x3 : ∀ s t u, (((K.put (H.nx + 2) s).put (H.nx + 3) t).put (H.nx + 4) u).nx = H.nx + 5 := fun s t u => by rw [AH.nx_put, x2, if_neg (by omega)]
  rw [aC_draw (hc := by kernel_rfl)]
  simp [hS.P, g0, hKn]
  refine aIf_mk ⟨by omega, by omega, by omega⟩ ?_
  simp [hS.P, g0, hKn, hf0]
  refine cloneInts_call hS p.sems (by omega) (H.nx + 3) (by simp [hf1]) ?_
  simp [hS.P, g0, hKn, hf0, hf1, x1]
  refine aIf_mk ⟨by omega, by omega⟩ ?_
  simp [hS.P, g0, hKn, hf0, hf1, hf2, x1, x2]
  refine aIf_mk ?_ ?_
  · simp [chkH, hKn, hf0, hf1, hf2, x1, x2, x3]
    exact (show reach _ 4 14 13 = true from by kernel_rfl)
  simp [hS.P, g0, hKn, hf0, hf1, hf2, x1, x2, x3]
  --LOOPS
  generalize hK' : (AH.put _ (H.nx + 5) _) = K'
  replace hK' : ((((K.put (H.nx + 2) (.row (List.replicate p.events.toNat (.bool false)) 1 0)).put (H.nx + 3) (.row (p.sems.map encInt) 1 0)).put (H.nx + 4) (.row (List.replicate p.ports.length portZero) 2 0)).put (H.nx + 5) (.row [.agg (stC p (.csl []) (.csl []) (.csl []) (.sl (H.nx + 2) 0 0 p.events.toNat) (.sl (H.nx + 3) 0 0 p.sems.length) (.sl (H.nx + 4) 0 0 p.ports.length))] 10 0)) = K' := hK'
  have start : ∃ L : AH, (∀ N r, Wk X N r K' r L) ∧ BootH H L p [] [] [] := by
    have m0 : K'.get H.nx = .row [encPlan p] 7 0 := by rw [← hK']; simp [g0]
    have m1 : K'.get (H.nx + 1) = K.get (H.nx + 1) := by rw [← hK']; simp
    rw [g1] at m1
    have m2 : K'.get (H.nx + 2) = .row (List.replicate p.events.toNat (.bool false)) 1 0 := by rw [← hK']; simp
    have m3 : K'.get (H.nx + 3) = .row (p.sems.map encInt) 1 0 := by rw [← hK']; simp
    have m4 : K'.get (H.nx + 4) = .row (List.replicate p.ports.length portZero) 2 0 := by rw [← hK']; simp
    have m5 : K'.get (H.nx + 5) = .row [.agg (stC p (.csl []) (.csl []) (.csl []) (.sl (H.nx + 2) 0 0 p.events.toNat) (.sl (H.nx + 3) 0 0 p.sems.length) (.sl (H.nx + 4) 0 0 p.ports.length))] 10 0 := by rw [← hK']; simp
    have mk : ∀ i, H.get i ≠ .free → K'.get i = H.get i := by rw [← hK']; exact put_keeps (f 5) (put_keeps (f 4) (put_keeps (f 3) (put_keeps (f 2) hk)))
    have y1 : K'.nx = H.nx + 6 := by rw [← hK', AH.nx_put, x3, if_neg (by omega)]
    clear hK'
    have w1 := fun N r => Wk.void (X := X) (N := N) (r := r) (H := K') 21
    rw [y1] at w1
    have y2 : (K'.put (H.nx + 6) (.row [] 21 0)).nx = H.nx + 7 := by rw [AH.nx_put, y1, if_neg (by omega)]
    have w2 := fun N r => Wk.void (X := X) (N := N) (r := r) (H := K'.put (H.nx + 6) (.row [] 21 0)) 1
    rw [y2] at w2
    have y3 : ((K'.put (H.nx + 6) (.row [] 21 0)).put (H.nx + 7) (.row [] 1 0)).nx = H.nx + 8 := by rw [AH.nx_put, y2, if_neg (by omega)]
    have w3 := fun N r => Wk.void (X := X) (N := N) (r := r) (H := (K'.put (H.nx + 6) (.row [] 21 0)).put (H.nx + 7) (.row [] 1 0)) 66
    rw [y3] at w3
    generalize hM : (((K'.put (H.nx + 6) (.row [] 21 0)).put (H.nx + 7) (.row [] 1 0)).put (H.nx + 8) (.row [] 66 0)) = M at w3
    have e0 : M.get H.nx = .row [encPlan p] 7 0 := by rw [← hM]; simp [m0]
    have e1 : M.get (H.nx + 1) = .row [.agg [.int .i64 0, .int .i64 0, .int .i64 0, .csl [], .csl [], .csl [], .csl [], .csl [], .csl [], .csl []]] 10 0 := by rw [← hM]; simp [m1]
    have e2 : M.get (H.nx + 2) = .row (List.replicate p.events.toNat (.bool false)) 1 0 := by rw [← hM]; simp [m2]
    have e3 : M.get (H.nx + 3) = .row (p.sems.map encInt) 1 0 := by rw [← hM]; simp [m3]
    have e4 : M.get (H.nx + 4) = .row (List.replicate p.ports.length portZero) 2 0 := by rw [← hM]; simp [m4]
    have e5 : M.get (H.nx + 5) = .row [.agg (stC p (.csl []) (.csl []) (.csl []) (.sl (H.nx + 2) 0 0 p.events.toNat) (.sl (H.nx + 3) 0 0 p.sems.length) (.sl (H.nx + 4) 0 0 p.ports.length))] 10 0 := by rw [← hM]; simp [m5]
    have e6 : M.get (H.nx + 6) = .row [] 21 0 := by rw [← hM]; simp
    have e7 : M.get (H.nx + 7) = .row [] 1 0 := by rw [← hM]; simp
    have e8 : M.get (H.nx + 8) = .row [] 66 0 := by rw [← hM]; simp
    have ek : ∀ i, H.get i ≠ .free → M.get i = H.get i := by rw [← hM]; exact put_keeps (f 8) (put_keeps (f 7) (put_keeps (f 6) mk))
    clear hM
    have u1 := fun N r => Wk.slot (X := X) (N := N) (r := r) [.agg ((stC p (.csl []) (.csl []) (.csl []) (.sl (H.nx + 2) 0 0 p.events.toNat) (.sl (H.nx + 3) 0 0 p.sems.length) (.sl (H.nx + 4) 0 0 p.ports.length)).set 3 (.sl (H.nx + 6) 0 0 0))] e5 rfl (cell_le 3 rfl (LeH.mat (id := H.nx + 6) (by rw [e6]; simp)))
    have u2 := fun N r => Wk.slot (X := X) (N := N) (r := r) (H := M.put (H.nx + 5) (.row [.agg (stC p (.sl (H.nx + 6) 0 0 0) (.csl []) (.csl []) (.sl (H.nx + 2) 0 0 p.events.toNat) (.sl (H.nx + 3) 0 0 p.sems.length) (.sl (H.nx + 4) 0 0 p.ports.length))] 10 0)) (id := H.nx + 5) (xs := [.agg (stC p (.sl (H.nx + 6) 0 0 0) (.csl []) (.csl []) (.sl (H.nx + 2) 0 0 p.events.toNat) (.sl (H.nx + 3) 0 0 p.sems.length) (.sl (H.nx + 4) 0 0 p.ports.length))]) (sz := 10) (ver := 0) [.agg ((stC p (.sl (H.nx + 6) 0 0 0) (.csl []) (.csl []) (.sl (H.nx + 2) 0 0 p.events.toNat) (.sl (H.nx + 3) 0 0 p.sems.length) (.sl (H.nx + 4) 0 0 p.ports.length)).set 4 (.sl (H.nx + 7) 0 0 0))] (AH.put_same _ _ _) rfl (cell_le 4 rfl (LeH.mat (id := H.nx + 7) (by rw [AH.put_ne _ _ (by omega), e7]; simp)))
    have u3 := fun N r => Wk.slot (X := X) (N := N) (r := r) (H := (M.put (H.nx + 5) (.row [.agg (stC p (.sl (H.nx + 6) 0 0 0) (.csl []) (.csl []) (.sl (H.nx + 2) 0 0 p.events.toNat) (.sl (H.nx + 3) 0 0 p.sems.length) (.sl (H.nx + 4) 0 0 p.ports.length))] 10 0)).put (H.nx + 5) (.row [.agg (stC p (.sl (H.nx + 6) 0 0 0) (.sl (H.nx + 7) 0 0 0) (.csl []) (.sl (H.nx + 2) 0 0 p.events.toNat) (.sl (H.nx + 3) 0 0 p.sems.length) (.sl (H.nx + 4) 0 0 p.ports.length))] 10 0)) (id := H.nx + 5) (xs := [.agg (stC p (.sl (H.nx + 6) 0 0 0) (.sl (H.nx + 7) 0 0 0) (.csl []) (.sl (H.nx + 2) 0 0 p.events.toNat) (.sl (H.nx + 3) 0 0 p.sems.length) (.sl (H.nx + 4) 0 0 p.ports.length))]) (sz := 10) (ver := 0) [.agg ((stC p (.sl (H.nx + 6) 0 0 0) (.sl (H.nx + 7) 0 0 0) (.csl []) (.sl (H.nx + 2) 0 0 p.events.toNat) (.sl (H.nx + 3) 0 0 p.sems.length) (.sl (H.nx + 4) 0 0 p.ports.length)).set 9 (.sl (H.nx + 8) 0 0 0))] (AH.put_same _ _ _) rfl (cell_le 9 rfl (LeH.mat (id := H.nx + 8) (by rw [AH.put_ne _ _ (by omega), AH.put_ne _ _ (by omega), e8]; simp)))
    refine ⟨_, fun N r => (w1 N r).trans ((w2 N r).trans ((w3 N r).trans ((u1 N r).trans ((u2 N r).trans (u3 N r))))), ?_, ?_, ?_, ?_, ?_, ?_, ?_, ?_, ?_, ?_⟩
    · simp [e0]
    · simp [e1]
    · simp [e2]
    · simp [e3]
    · simp [e4]
    · rw [AH.put_same]; rfl
    · simp [e6]
    · simp [e7]
    · simp [e8]
    · exact put_keeps (f 5) (put_keeps (f 5) (put_keeps (f 5) ek))
  obtain ⟨L, hwk, hB⟩ := start
  clear hK hK' hk g0 g1 hKn hf hf0 hf1 hf2 hf3 x1 x2
  refine AWp.loop (S := Nat × AH) (fun s => s.1 ≤ p.procs.length ∧ BootH H s.2 p ((p.procs.take s.1).map fun x => encProcS (bootProc x)) ((readyL (p.procs.take s.1) 0).map encInt) [])
    (fun s => [(1, .ptr H.nx 0 0 0), (2, .ptr (H.nx + 1) 0 0 0), (3, .nili), (4, .ptr (H.nx + 5) 0 0 0), (30, .fsl (p.procs.map encProc)), (31, .int .i64 p.procs.length), (32, .int .i64 s.1)]) (fun s => s.2) (fun s => p.procs.length - s.1) (0, L) ⟨Nat.zero_le _, by simpa [readyL] using hB⟩ ((hwk _ _).trans (Wk.regs (by simp [x3]))) fun s hs => ?_
  clear hwk hB x3
  obtain ⟨n, K⟩ := s
  obtain ⟨hn, hB⟩ := hs
  simp only at hn hB
  refine aC_sound (lv := [50, 56, 78]) _ _ _ _ ?_
  simp [hS.P]
  refine aCond_dec (fun hlt => ?_) (fun hge => ?_)
  · obtain ⟨x, hx⟩ : ∃ x, p.procs[n]? = some x := ⟨p.procs[n], List.getElem?_eq_getElem (by omega)⟩
    have hxi := hin.proc x (List.mem_of_getElem? hx)
    have hKn : H.nx + 8 < K.nx := AH.lt_nx (AH.ne_free hB.hg)
    have w1 : IntKind.u32.wrap x.entry = x.entry := by rw [wrapu32_mod]; omega
    obtain ⟨b1, b2, b3, b4, b5, b6, b7, b8, b9, b0⟩ := hB
    have r1 := readyL_take hx
    have r2 := readyL_len (p.procs.take n) 0
    have r3 : (p.procs.take n).length = n := by simp; omega
    generalize hP : ((p.procs.take n).map fun x => encProcS (bootProc x)) = P at b6 b7
    have hPl : P.length = n := by rw [← hP]; simp; omega
    generalize hR : (readyL (p.procs.take n) 0).map encInt = R at b6 b8
    have hRl : R.length ≤ n := by rw [← hR]; simp; omega
    have a0 : ¬ H.nx = K.nx := by omega
    have c0 : ¬ H.nx = K.nx + 1 := by omega
    have d0 : ¬ K.nx = H.nx := by omega
    have e0 : ¬ K.nx + 1 = H.nx := by omega
    have a1 : ¬ H.nx + 1 = K.nx := by omega
    have c1 : ¬ H.nx + 1 = K.nx + 1 := by omega
    have d1 : ¬ K.nx = H.nx + 1 := by omega
    have e1 : ¬ K.nx + 1 = H.nx + 1 := by omega
    have a2 : ¬ H.nx + 2 = K.nx := by omega
    have c2 : ¬ H.nx + 2 = K.nx + 1 := by omega
    have d2 : ¬ K.nx = H.nx + 2 := by omega
    have e2 : ¬ K.nx + 1 = H.nx + 2 := by omega
    have a3 : ¬ H.nx + 3 = K.nx := by omega
    have c3 : ¬ H.nx + 3 = K.nx + 1 := by omega
    have d3 : ¬ K.nx = H.nx + 3 := by omega
    have e3 : ¬ K.nx + 1 = H.nx + 3 := by omega
    have a4 : ¬ H.nx + 4 = K.nx := by omega
    have c4 : ¬ H.nx + 4 = K.nx + 1 := by omega
    have d4 : ¬ K.nx = H.nx + 4 := by omega
    have e4 : ¬ K.nx + 1 = H.nx + 4 := by omega
    have a5 : ¬ H.nx + 5 = K.nx := by omega
    have c5 : ¬ H.nx + 5 = K.nx + 1 := by omega
    have d5 : ¬ K.nx = H.nx + 5 := by omega
    have e5 : ¬ K.nx + 1 = H.nx + 5 := by omega
    have a6 : ¬ H.nx + 6 = K.nx := by omega
    have c6 : ¬ H.nx + 6 = K.nx + 1 := by omega
    have d6 : ¬ K.nx = H.nx + 6 := by omega
    have e6 : ¬ K.nx + 1 = H.nx + 6 := by omega
    have a7 : ¬ H.nx + 7 = K.nx := by omega
    have c7 : ¬ H.nx + 7 = K.nx + 1 := by omega
    have d7 : ¬ K.nx = H.nx + 7 := by omega
    have e7 : ¬ K.nx + 1 = H.nx + 7 := by omega
    have a8 : ¬ H.nx + 8 = K.nx := by omega
    have c8 : ¬ H.nx + 8 = K.nx + 1 := by omega
    have d8 : ¬ K.nx = H.nx + 8 := by omega
    have e8 : ¬ K.nx + 1 = H.nx + 8 := by omega
    have hq1 : H.get (K.nx + 1) = .free := by
      have := keepsNx (put_keeps (s := .dead) (keepsNx b0) b0)
      rwa [AH.nx_fresh] at this
    cases hau : x.auto with
    | true =>
      simp [hS.P, hx, hau, w1, b1, b2, b3, b4, b5, b6, b7, b8, b9, stC, a0, a1, a2, a3, a4, a5, a6, a7, a8, c0, c1, c2, c3, c4, c5, c6, c7, c8, d0, d1, d2, d3, d4, d5, d6, d7, d8, e0, e1, e2, e3, e4, e5, e6, e7, e8]
      refine aIf_mk (by omega) ?_
      simp [hS.P, hx, hau, w1, b1, b2, b3, b4, b5, b6, b7, b8, b9, stC, a0, a1, a2, a3, a4, a5, a6, a7, a8, c0, c1, c2, c3, c4, c5, c6, c7, c8, d0, d1, d2, d3, d4, d5, d6, d7, d8, e0, e1, e2, e3, e4, e5, e6, e7, e8]
      refine aIf_mk (by omega) ?_
      simp [hS.P, hx, hau, w1, b1, b2, b3, b4, b5, b6, b7, b8, b9, stC, a0, a1, a2, a3, a4, a5, a6, a7, a8, c0, c1, c2, c3, c4, c5, c6, c7, c8, d0, d1, d2, d3, d4, d5, d6, d7, d8, e0, e1, e2, e3, e4, e5, e6, e7, e8]
      have hPe : ((p.procs.take (n + 1)).map fun x => encProcS (bootProc x)) = P ++ [encProcS (bootProc x)] := by rw [← hP]; simp [List.take_add_one, hx]
      have hRe : (readyL (p.procs.take (n + 1)) 0).map encInt = R ++ [.int .i64 n] := by rw [r1, hau, List.map_append, hR]; simp [encInt]
      have hbp : encProcS (bootProc x) = .agg [.int .u32 0, .int .u32 0, .int .u32 0, .int .u32 0, .int .u32 0, .int .u32 0, .int .u32 0, .int .u32 0, .int .u32 0, .int .u32 0, .int .u32 0, .int .u32 0, .int .u32 0, .int .u32 0, .int .u32 0, .int .u32 0, .int .u32 x.entry, .int .i64 1, .int .i64 x.prio, .int .i64 0, .int .i64 0] := by unfold bootProc; rw [hau]; rfl
      refine ⟨n + 1, _, ⟨by omega, ?_⟩, by omega, Wk.regs (by simp [wrap1 (n := n) (by omega)])⟩
      rw [← List.map_take, hPe, hRe, hbp]
      exact ⟨by simp [b1, a0, a1, a2, a3, a4, a5, a6, a7, a8, c0, c1, c2, c3, c4, c5, c6, c7, c8, d0, d1, d2, d3, d4, d5, d6, d7, d8, e0, e1, e2, e3, e4, e5, e6, e7, e8], by simp [b2, a0, a1, a2, a3, a4, a5, a6, a7, a8, c0, c1, c2, c3, c4, c5, c6, c7, c8, d0, d1, d2, d3, d4, d5, d6, d7, d8, e0, e1, e2, e3, e4, e5, e6, e7, e8], by simp [b3, a0, a1, a2, a3, a4, a5, a6, a7, a8, c0, c1, c2, c3, c4, c5, c6, c7, c8, d0, d1, d2, d3, d4, d5, d6, d7, d8, e0, e1, e2, e3, e4, e5, e6, e7, e8], by simp [b4, a0, a1, a2, a3, a4, a5, a6, a7, a8, c0, c1, c2, c3, c4, c5, c6, c7, c8, d0, d1, d2, d3, d4, d5, d6, d7, d8, e0, e1, e2, e3, e4, e5, e6, e7, e8], by simp [b5, a0, a1, a2, a3, a4, a5, a6, a7, a8, c0, c1, c2, c3, c4, c5, c6, c7, c8, d0, d1, d2, d3, d4, d5, d6, d7, d8, e0, e1, e2, e3, e4, e5, e6, e7, e8], by simp [stC, a0, a1, a2, a3, a4, a5, a6, a7, a8, c0, c1, c2, c3, c4, c5, c6, c7, c8, d0, d1, d2, d3, d4, d5, d6, d7, d8, e0, e1, e2, e3, e4, e5, e6, e7, e8], by simp [a0, a1, a2, a3, a4, a5, a6, a7, a8, c0, c1, c2, c3, c4, c5, c6, c7, c8, d0, d1, d2, d3, d4, d5, d6, d7, d8, e0, e1, e2, e3, e4, e5, e6, e7, e8], by simp [b8, a0, a1, a2, a3, a4, a5, a6, a7, a8, c0, c1, c2, c3, c4, c5, c6, c7, c8, d0, d1, d2, d3, d4, d5, d6, d7, d8, e0, e1, e2, e3, e4, e5, e6, e7, e8], by simp [b9, a0, a1, a2, a3, a4, a5, a6, a7, a8, c0, c1, c2, c3, c4, c5, c6, c7, c8, d0, d1, d2, d3, d4, d5, d6, d7, d8, e0, e1, e2, e3, e4, e5, e6, e7, e8], put_keeps (f 5) (put_keeps (f 6) (put_keeps (f 5) (put_keeps (f 7) (put_keeps hq1 (put_keeps (keepsNx b0) b0)))))⟩
    | false =>
      simp [hS.P, hx, hau, w1, b1, b2, b3, b4, b5, b6, b7, b8, b9, stC, a0, a1, a2, a3, a4, a5, a6, a7, a8, c0, c1, c2, c3, c4, c5, c6, c7, c8, d0, d1, d2, d3, d4, d5, d6, d7, d8, e0, e1, e2, e3, e4, e5, e6, e7, e8]
      refine aIf_mk (by omega) ?_
      simp [hS.P, hx, hau, w1, b1, b2, b3, b4, b5, b6, b7, b8, b9, stC, a0, a1, a2, a3, a4, a5, a6, a7, a8, c0, c1, c2, c3, c4, c5, c6, c7, c8, d0, d1, d2, d3, d4, d5, d6, d7, d8, e0, e1, e2, e3, e4, e5, e6, e7, e8]
      have hPe : ((p.procs.take (n + 1)).map fun x => encProcS (bootProc x)) = P ++ [encProcS (bootProc x)] := by rw [← hP]; simp [List.take_add_one, hx]
      have hRe : (readyL (p.procs.take (n + 1)) 0).map encInt = R := by rw [r1, hau, List.map_append, hR]; simp [encInt]
      have hbp : encProcS (bootProc x) = .agg [.int .u32 0, .int .u32 0, .int .u32 0, .int .u32 0, .int .u32 0, .int .u32 0, .int .u32 0, .int .u32 0, .int .u32 0, .int .u32 0, .int .u32 0, .int .u32 0, .int .u32 0, .int .u32 0, .int .u32 0, .int .u32 0, .int .u32 x.entry, .int .i64 0, .int .i64 x.prio, .int .i64 0, .int .i64 0] := by unfold bootProc; rw [hau]; rfl
      refine ⟨n + 1, _, ⟨by omega, ?_⟩, by omega, Wk.regs (by simp [wrap1 (n := n) (by omega)])⟩
      rw [← List.map_take, hPe, hRe, hbp]
      exact ⟨by simp [b1, a0, a1, a2, a3, a4, a5, a6, a7, a8, c0, c1, c2, c3, c4, c5, c6, c7, c8, d0, d1, d2, d3, d4, d5, d6, d7, d8, e0, e1, e2, e3, e4, e5, e6, e7, e8], by simp [b2, a0, a1, a2, a3, a4, a5, a6, a7, a8, c0, c1, c2, c3, c4, c5, c6, c7, c8, d0, d1, d2, d3, d4, d5, d6, d7, d8, e0, e1, e2, e3, e4, e5, e6, e7, e8], by simp [b3, a0, a1, a2, a3, a4, a5, a6, a7, a8, c0, c1, c2, c3, c4, c5, c6, c7, c8, d0, d1, d2, d3, d4, d5, d6, d7, d8, e0, e1, e2, e3, e4, e5, e6, e7, e8], by simp [b4, a0, a1, a2, a3, a4, a5, a6, a7, a8, c0, c1, c2, c3, c4, c5, c6, c7, c8, d0, d1, d2, d3, d4, d5, d6, d7, d8, e0, e1, e2, e3, e4, e5, e6, e7, e8], by simp [b5, a0, a1, a2, a3, a4, a5, a6, a7, a8, c0, c1, c2, c3, c4, c5, c6, c7, c8, d0, d1, d2, d3, d4, d5, d6, d7, d8, e0, e1, e2, e3, e4, e5, e6, e7, e8], by simp [stC, a0, a1, a2, a3, a4, a5, a6, a7, a8, c0, c1, c2, c3, c4, c5, c6, c7, c8, d0, d1, d2, d3, d4, d5, d6, d7, d8, e0, e1, e2, e3, e4, e5, e6, e7, e8], by simp [a0, a1, a2, a3, a4, a5, a6, a7, a8, c0, c1, c2, c3, c4, c5, c6, c7, c8, d0, d1, d2, d3, d4, d5, d6, d7, d8, e0, e1, e2, e3, e4, e5, e6, e7, e8], by simp [b8, a0, a1, a2, a3, a4, a5, a6, a7, a8, c0, c1, c2, c3, c4, c5, c6, c7, c8, d0, d1, d2, d3, d4, d5, d6, d7, d8, e0, e1, e2, e3, e4, e5, e6, e7, e8], by simp [b9, a0, a1, a2, a3, a4, a5, a6, a7, a8, c0, c1, c2, c3, c4, c5, c6, c7, c8, d0, d1, d2, d3, d4, d5, d6, d7, d8, e0, e1, e2, e3, e4, e5, e6, e7, e8], put_keeps (f 5) (put_keeps (f 6) (put_keeps hq1 (put_keeps (keepsNx b0) b0)))⟩
  have hn' : n = p.procs.length := by omega
  rw [hn', List.take_length] at hB
  clear hn' hge hn
  simp [hS.P, hB.plan]
  refine AWp.loop (S := Nat × AH) (fun s => s.1 ≤ p.pages.length ∧ BootH H s.2 p (p.procs.map fun x => encProcS (bootProc x)) ((readyL p.procs 0).map encInt) ((p.pages.take s.1).map fun x => encPageS (bootPage x)))
    (fun s => [(1, .ptr H.nx 0 0 0), (2, .ptr (H.nx + 1) 0 0 0), (3, .nili), (4, .ptr (H.nx + 5) 0 0 0), (60, .fsl (p.pages.map encPage)), (61, .int .i64 p.pages.length), (62, .int .i64 s.1)]) (fun s => s.2) (fun s => p.pages.length - s.1) (0, K) ⟨Nat.zero_le _, by simpa using hB⟩ (Wk.regs (by simp)) fun s hs => ?_
  clear hB
  obtain ⟨n, K⟩ := s
  obtain ⟨hn, hB⟩ := hs
  simp only at hn hB
  generalize hP : (p.procs.map fun x => encProcS (bootProc x)) = P at hB
  generalize hR : (readyL p.procs 0).map encInt = R at hB
  refine aC_sound (lv := [50, 56, 78]) _ _ _ _ ?_
  simp [hS.P]
  refine aCond_dec (fun hlt => ?_) (fun hge => ?_)
  · obtain ⟨x, hx⟩ : ∃ x, p.pages[n]? = some x := ⟨p.pages[n], List.getElem?_eq_getElem (by omega)⟩
    have hxi := hin.page x (List.mem_of_getElem? hx)
    have hKn : H.nx + 8 < K.nx := AH.lt_nx (AH.ne_free hB.hg)
    obtain ⟨b1, b2, b3, b4, b5, b6, b7, b8, b9, b0⟩ := hB
    generalize hG : ((p.pages.take n).map fun x => encPageS (bootPage x)) = G at b6 b9
    have hGl : G.length = n := by rw [← hG]; simp; omega
    have a0 : ¬ H.nx = K.nx := by omega
    have c0 : ¬ H.nx = K.nx + 1 := by omega
    have d0 : ¬ K.nx = H.nx := by omega
    have e0 : ¬ K.nx + 1 = H.nx := by omega
    have a1 : ¬ H.nx + 1 = K.nx := by omega
    have c1 : ¬ H.nx + 1 = K.nx + 1 := by omega
    have d1 : ¬ K.nx = H.nx + 1 := by omega
    have e1 : ¬ K.nx + 1 = H.nx + 1 := by omega
    have a2 : ¬ H.nx + 2 = K.nx := by omega
    have c2 : ¬ H.nx + 2 = K.nx + 1 := by omega
    have d2 : ¬ K.nx = H.nx + 2 := by omega
    have e2 : ¬ K.nx + 1 = H.nx + 2 := by omega
    have a3 : ¬ H.nx + 3 = K.nx := by omega
    have c3 : ¬ H.nx + 3 = K.nx + 1 := by omega
    have d3 : ¬ K.nx = H.nx + 3 := by omega
    have e3 : ¬ K.nx + 1 = H.nx + 3 := by omega
    have a4 : ¬ H.nx + 4 = K.nx := by omega
    have c4 : ¬ H.nx + 4 = K.nx + 1 := by omega
    have d4 : ¬ K.nx = H.nx + 4 := by omega
    have e4 : ¬ K.nx + 1 = H.nx + 4 := by omega
    have a5 : ¬ H.nx + 5 = K.nx := by omega
    have c5 : ¬ H.nx + 5 = K.nx + 1 := by omega
    have d5 : ¬ K.nx = H.nx + 5 := by omega
    have e5 : ¬ K.nx + 1 = H.nx + 5 := by omega
    have a6 : ¬ H.nx + 6 = K.nx := by omega
    have c6 : ¬ H.nx + 6 = K.nx + 1 := by omega
    have d6 : ¬ K.nx = H.nx + 6 := by omega
    have e6 : ¬ K.nx + 1 = H.nx + 6 := by omega
    have a7 : ¬ H.nx + 7 = K.nx := by omega
    have c7 : ¬ H.nx + 7 = K.nx + 1 := by omega
    have d7 : ¬ K.nx = H.nx + 7 := by omega
    have e7 : ¬ K.nx + 1 = H.nx + 7 := by omega
    have a8 : ¬ H.nx + 8 = K.nx := by omega
    have c8 : ¬ H.nx + 8 = K.nx + 1 := by omega
    have d8 : ¬ K.nx = H.nx + 8 := by omega
    have e8 : ¬ K.nx + 1 = H.nx + 8 := by omega
    have hq1 : H.get (K.nx + 1) = .free := by
      have := keepsNx (put_keeps (s := .dead) (keepsNx b0) b0)
      rwa [AH.nx_fresh] at this
    simp [-ze73, -plc73, zePage, plcPage, hS.P, hx, b1, b2, b3, b4, b5, b6, b7, b8, b9, stC, a0, a1, a2, a3, a4, a5, a6, a7, a8, c0, c1, c2, c3, c4, c5, c6, c7, c8, d0, d1, d2, d3, d4, d5, d6, d7, d8, e0, e1, e2, e3, e4, e5, e6, e7, e8]
    refine aIf_mk (fun x hx => by rw [List.eq_of_mem_replicate hx]; rfl) ?_
    simp [-ze73, -plc73, zePage, plcPage, hS.P, hx, b1, b2, b3, b4, b5, b6, b7, b8, b9, stC, a0, a1, a2, a3, a4, a5, a6, a7, a8, c0, c1, c2, c3, c4, c5, c6, c7, c8, d0, d1, d2, d3, d4, d5, d6, d7, d8, e0, e1, e2, e3, e4, e5, e6, e7, e8]
    rw [aC_draw (hc := by kernel_rfl)]
    simp [-ze73, -plc73, zePage, plcPage, hS.P, hx, b1, b2, b3, b4, b5, b6, b7, b8, b9, stC, a0, a1, a2, a3, a4, a5, a6, a7, a8, c0, c1, c2, c3, c4, c5, c6, c7, c8, d0, d1, d2, d3, d4, d5, d6, d7, d8, e0, e1, e2, e3, e4, e5, e6, e7, e8]
    have hz : zeros64 ++ List.drop 64 zeros64 = zeros64 := rfl
    rw [hz]
    refine aCopy_mk (es := .int .i64 x.rights :: .bool false :: zeros64) 5 1 (by rw [hS.P]; simp) (AH.put_same _ _ _) rfl (by simp) ?_
    have ht : x.init.take 64 = x.init := List.take_of_length_le (by omega)
    rw [ht]
    have hes : List.take 2 (.int .i64 x.rights :: .bool false :: zeros64) ++ x.init.map encB ++ List.drop (2 + x.init.length) (.int .i64 x.rights :: .bool false :: zeros64) = (encPageS (bootPage x)).cells := by
      have h1 : List.drop (2 + x.init.length) (AV.int .i64 x.rights :: .bool false :: zeros64) = (List.replicate (64 - x.init.length) (0 : UInt8)).map encB := by
        rw [Nat.add_comm, show List.drop (x.init.length + 2) (AV.int .i64 x.rights :: .bool false :: zeros64) = zeros64.drop x.init.length from rfl, zeros_drop]
      rw [h1, encPageS_cells]; simp [bootPage]
    rw [hes]
    have hpcl : (encPageS (bootPage x)).cells.length = 66 := by simp [bootPage]; omega
    have hpc1 : ∀ c ∈ (encPageS (bootPage x)).cells, c.one = true := by
      intro c hc; rw [encPageS_cells] at hc; simp at hc
      rcases hc with rfl | rfl | ⟨b, _, rfl⟩ <;> rfl
    have hpcg : AV.agg (encPageS (bootPage x)).cells = encPageS (bootPage x) := rfl
    have hGe : ((p.pages.take (n + 1)).map fun x => encPageS (bootPage x)) = G ++ [encPageS (bootPage x)] := by rw [← hG]; simp [List.take_add_one, hx]
    rw [← hpcg] at hGe
    generalize (encPageS (bootPage x)).cells = pc at hpcl hpc1 hGe
    have hpct : pc.take 66 = pc := List.take_of_length_le (by omega)
    simp [-ze73, -plc73, zePage, plcPage, hS.P, hx, b1, b2, b3, b4, b5, b6, b7, b8, b9, stC, hpcl, hpct, a0, a1, a2, a3, a4, a5, a6, a7, a8, c0, c1, c2, c3, c4, c5, c6, c7, c8, d0, d1, d2, d3, d4, d5, d6, d7, d8, e0, e1, e2, e3, e4, e5, e6, e7, e8]
    refine aIf_mk ?_ ?_
    · simp [chkH]
      exact (show reach _ 4 4 1 = true from by kernel_rfl)
    simp [-ze73, -plc73, zePage, plcPage, hS.P, hx, b1, b2, b3, b4, b5, b6, b7, b8, b9, stC, hpcl, hpct, a0, a1, a2, a3, a4, a5, a6, a7, a8, c0, c1, c2, c3, c4, c5, c6, c7, c8, d0, d1, d2, d3, d4, d5, d6, d7, d8, e0, e1, e2, e3, e4, e5, e6, e7, e8]
    refine aIf_mk hpc1 ?_
    simp [-ze73, -plc73, zePage, plcPage, hS.P, hx, b1, b2, b3, b4, b5, b6, b7, b8, b9, stC, hpcl, hpct, a0, a1, a2, a3, a4, a5, a6, a7, a8, c0, c1, c2, c3, c4, c5, c6, c7, c8, d0, d1, d2, d3, d4, d5, d6, d7, d8, e0, e1, e2, e3, e4, e5, e6, e7, e8]
    refine aIf_mk (by omega) ?_
    simp [-ze73, -plc73, zePage, plcPage, hS.P, hx, b1, b2, b3, b4, b5, b6, b7, b8, b9, stC, hpcl, hpct, a0, a1, a2, a3, a4, a5, a6, a7, a8, c0, c1, c2, c3, c4, c5, c6, c7, c8, d0, d1, d2, d3, d4, d5, d6, d7, d8, e0, e1, e2, e3, e4, e5, e6, e7, e8]
    refine ⟨n + 1, _, ⟨by omega, ?_⟩, by omega, Wk.regs (by simp [wrap1 (n := n) (by omega)])⟩
    rw [← List.map_take, hGe]
    exact ⟨by simp [b1, a0, a1, a2, a3, a4, a5, a6, a7, a8, c0, c1, c2, c3, c4, c5, c6, c7, c8, d0, d1, d2, d3, d4, d5, d6, d7, d8, e0, e1, e2, e3, e4, e5, e6, e7, e8], by simp [b2, a0, a1, a2, a3, a4, a5, a6, a7, a8, c0, c1, c2, c3, c4, c5, c6, c7, c8, d0, d1, d2, d3, d4, d5, d6, d7, d8, e0, e1, e2, e3, e4, e5, e6, e7, e8], by simp [b3, a0, a1, a2, a3, a4, a5, a6, a7, a8, c0, c1, c2, c3, c4, c5, c6, c7, c8, d0, d1, d2, d3, d4, d5, d6, d7, d8, e0, e1, e2, e3, e4, e5, e6, e7, e8], by simp [b4, a0, a1, a2, a3, a4, a5, a6, a7, a8, c0, c1, c2, c3, c4, c5, c6, c7, c8, d0, d1, d2, d3, d4, d5, d6, d7, d8, e0, e1, e2, e3, e4, e5, e6, e7, e8], by simp [b5, a0, a1, a2, a3, a4, a5, a6, a7, a8, c0, c1, c2, c3, c4, c5, c6, c7, c8, d0, d1, d2, d3, d4, d5, d6, d7, d8, e0, e1, e2, e3, e4, e5, e6, e7, e8], by simp [stC, a0, a1, a2, a3, a4, a5, a6, a7, a8, c0, c1, c2, c3, c4, c5, c6, c7, c8, d0, d1, d2, d3, d4, d5, d6, d7, d8, e0, e1, e2, e3, e4, e5, e6, e7, e8], by simp [b7, a0, a1, a2, a3, a4, a5, a6, a7, a8, c0, c1, c2, c3, c4, c5, c6, c7, c8, d0, d1, d2, d3, d4, d5, d6, d7, d8, e0, e1, e2, e3, e4, e5, e6, e7, e8], by simp [b8, a0, a1, a2, a3, a4, a5, a6, a7, a8, c0, c1, c2, c3, c4, c5, c6, c7, c8, d0, d1, d2, d3, d4, d5, d6, d7, d8, e0, e1, e2, e3, e4, e5, e6, e7, e8], by simp [a0, a1, a2, a3, a4, a5, a6, a7, a8, c0, c1, c2, c3, c4, c5, c6, c7, c8, d0, d1, d2, d3, d4, d5, d6, d7, d8, e0, e1, e2, e3, e4, e5, e6, e7, e8], put_keeps (f 5) (put_keeps (f 8) (put_keeps hq1 (put_keeps (keepsNx b0) b0)))⟩
  · have hn' : n = p.pages.length := by omega
    rw [hn', List.take_length] at hB
    generalize hG : (p.pages.map fun x => encPageS (bootPage x)) = G at hB
    simp [hS.P, hB.st, stC, hB.zero]
    have d2 := hB.hu; have d3 := hB.hs; have d4 := hB.ho; have d6 := hB.hp; have d7 := hB.hr; have d8 := hB.hg
    refine Leave.kill (newS H (bootIds H)) (Leave.stay ?_)
    have hn : ∀ i, H.get i ≠ .free → newS H (bootIds H) i = false := fun i hi => newS_old hi
    have hb : ∀ i, bootIds H i = true → newS H (bootIds H) i = false := fun i hi => newS_kept hi
    have kb : ∀ i, i ≠ H.nx + 1 → bootIds H i = true → ((K.put (H.nx + 1) (.row [.agg (stC p (.sl (H.nx + 6) P.length 0 P.length) (.sl (H.nx + 7) R.length 0 R.length) (.sl (H.nx + 8) G.length 0 G.length) (.sl (H.nx + 2) 0 0 p.events.toNat) (.sl (H.nx + 3) 0 0 p.sems.length) (.sl (H.nx + 4) 0 0 p.ports.length))] 10 0)).kill (newS H (bootIds H))).get i = K.get i := fun i hi hbi => by
      rw [kill_get, hb i hbi, AH.put_ne _ _ hi]; rfl
    have hPl : P.length = p.procs.length := by rw [← hP]; simp
    have hRl : R.length = (readyL p.procs 0).length := by rw [← hR]; simp
    have hGl : G.length = p.pages.length := by rw [← hG]; simp
    have hPe : P = (p.procs.map bootProc).map encProcS := by rw [← hP]; simp
    have hGe : G = (p.pages.map bootPage).map encPageS := by rw [← hG]; simp
    refine ⟨?_, ?_, ?_, ?_, ?_, ?_, ?_, ?_, ?_⟩
    · rw [hPl, hRl, hGl]; rfl
    · exact (kb _ (by omega) (by simp [bootIds])).trans d2
    · exact (kb _ (by omega) (by simp [bootIds])).trans d3
    · exact (kb _ (by omega) (by simp [bootIds])).trans d4
    · exact (kb _ (by omega) (by simp [bootIds])).trans (by rw [d6, ← hPe, hPl])
    · exact (kb _ (by omega) (by simp [bootIds])).trans (by rw [d7, ← hR, List.length_map])
    · exact (kb _ (by omega) (by simp [bootIds])).trans (by rw [d8, ← hGe, hGl])
    · intro i hi
      rw [kill_get, hn i hi]
      exact put_keeps (f 1) hB.keep i hi
    · intro i hi hbi
      rw [kill_get, newS_new hi hbi]
      simp
end Go.Proofs.YtndoembhbfiokaaGreatDoor.Am
set_option linter.unusedVariables false
set_option linter.unusedSimpArgs false
namespace Go.Proofs.YtndoembhbfiokaaGreatDoor.Am
open Go.RowKit Go.Proofs

theorem Frz.st {id ver : Nat} {zs : List AV} {p : PlanD} {P R G U S O P' R' G' U' S' O' : AV} (h1 : Frz id ver zs P P') (h2 : Frz id ver zs R R') (h3 : Frz id ver zs G G') (h4 : Frz id ver zs U U') (h5 : Frz id ver zs S S') (h6 : Frz id ver zs O O') :
    Frz id ver zs (.tup [.agg (stC p P R G U S O), .nili]) (.tup [.agg (stC p P' R' G' U' S' O'), .nili]) := by
  refine .tup _ _ rfl fun j u v k1 k2 => ?_
  rcases j with _ | _ | j <;> simp at k1 k2
  · subst k1 k2
    refine .agg _ _ rfl fun j u v k1 k2 => ?_
    rcases j with _ | _ | _ | _ | _ | _ | _ | _ | _ | _ | j <;> simp [stC] at k1 k2 <;> subst k1 k2 <;> first | assumption | exact .refl _
  · subst k1 k2; exact .refl _
theorem le_port : ∀ n : Nat, Le (.fsl (List.replicate n portZero)) (.fsl ((List.replicate n (⟨[], 0⟩ : PortS)).map encPortS)) := fun n => by
  rw [List.map_replicate]
  exact Le.fslR (leR_replicate (x := portZero) (y := encPortS ⟨[], 0⟩) (LeL.cells (l := [.csl [], .int .i64 0]) (m := [.fsl [], .int .i64 0]) ⟨Le.csl [], Le.refl _, trivial⟩) n)
theorem bootLive_leave {X : Ctx} {H K : AH} {p : PlanD} {v : AV} {Q : AV → AH → Prop} (h : BootLive H p v K) (hQ : Q (.tup [encState (bootD p), .nili]) H) : Leave X H v K Q := by
  have f : ∀ k, H.get (H.nx + k) = .free := fun k => AH.free_add H k
  obtain ⟨hv, d2, d3, d4, d6, d7, d8, hk, hr⟩ := h
  rw [hv]
  refine Leave.frz (v' := .tup [.agg (stC p (.fsl ((p.procs.map bootProc).map encProcS)) (.sl (H.nx + 7) (readyL p.procs 0).length 0 (readyL p.procs 0).length) (.sl (H.nx + 8) p.pages.length 0 p.pages.length) (.sl (H.nx + 2) 0 0 p.events.toNat) (.sl (H.nx + 3) 0 0 p.sems.length) (.sl (H.nx + 4) 0 0 p.ports.length)), .nili]) d6 (Frz.st (Frz.all (by simp)) (.refl _) (.refl _) (.refl _) (.refl _) (.refl _)) ?_
  refine Leave.frz (v' := .tup [.agg (stC p (.fsl ((p.procs.map bootProc).map encProcS)) (.fsl ((readyL p.procs 0).map encInt)) (.sl (H.nx + 8) p.pages.length 0 p.pages.length) (.sl (H.nx + 2) 0 0 p.events.toNat) (.sl (H.nx + 3) 0 0 p.sems.length) (.sl (H.nx + 4) 0 0 p.ports.length)), .nili]) ((AH.put_ne _ _ (by omega)).trans d7) (Frz.st (.refl _) (Frz.all (by simp)) (.refl _) (.refl _) (.refl _) (.refl _)) ?_
  refine Leave.frz (v' := .tup [.agg (stC p (.fsl ((p.procs.map bootProc).map encProcS)) (.fsl ((readyL p.procs 0).map encInt)) (.fsl ((p.pages.map bootPage).map encPageS)) (.sl (H.nx + 2) 0 0 p.events.toNat) (.sl (H.nx + 3) 0 0 p.sems.length) (.sl (H.nx + 4) 0 0 p.ports.length)), .nili]) ((AH.put_ne _ _ (by omega)).trans ((AH.put_ne _ _ (by omega)).trans d8)) (Frz.st (.refl _) (.refl _) (Frz.all (by simp)) (.refl _) (.refl _) (.refl _)) ?_
  refine Leave.frz (v' := .tup [.agg (stC p (.fsl ((p.procs.map bootProc).map encProcS)) (.fsl ((readyL p.procs 0).map encInt)) (.fsl ((p.pages.map bootPage).map encPageS)) (.fsl (List.replicate p.events.toNat (.bool false))) (.sl (H.nx + 3) 0 0 p.sems.length) (.sl (H.nx + 4) 0 0 p.ports.length)), .nili]) ((AH.put_ne _ _ (by omega)).trans ((AH.put_ne _ _ (by omega)).trans ((AH.put_ne _ _ (by omega)).trans d2))) (Frz.st (.refl _) (.refl _) (.refl _) (Frz.all (by simp)) (.refl _) (.refl _)) ?_
  refine Leave.frz (v' := .tup [.agg (stC p (.fsl ((p.procs.map bootProc).map encProcS)) (.fsl ((readyL p.procs 0).map encInt)) (.fsl ((p.pages.map bootPage).map encPageS)) (.fsl (List.replicate p.events.toNat (.bool false))) (.fsl (p.sems.map encInt)) (.sl (H.nx + 4) 0 0 p.ports.length)), .nili]) ((AH.put_ne _ _ (by omega)).trans ((AH.put_ne _ _ (by omega)).trans ((AH.put_ne _ _ (by omega)).trans ((AH.put_ne _ _ (by omega)).trans d3)))) (Frz.st (.refl _) (.refl _) (.refl _) (.refl _) (Frz.all (by simp)) (.refl _)) ?_
  refine Leave.frz (v' := .tup [.agg (stC p (.fsl ((p.procs.map bootProc).map encProcS)) (.fsl ((readyL p.procs 0).map encInt)) (.fsl ((p.pages.map bootPage).map encPageS)) (.fsl (List.replicate p.events.toNat (.bool false))) (.fsl (p.sems.map encInt)) (.fsl (List.replicate p.ports.length portZero))), .nili]) ((AH.put_ne _ _ (by omega)).trans ((AH.put_ne _ _ (by omega)).trans ((AH.put_ne _ _ (by omega)).trans ((AH.put_ne _ _ (by omega)).trans ((AH.put_ne _ _ (by omega)).trans d4))))) (Frz.st (.refl _) (.refl _) (.refl _) (.refl _) (.refl _) (Frz.all (by simp))) ?_
  have hup : (List.replicate p.events.toNat false).map AV.bool = List.replicate p.events.toNat (AV.bool false) := by simp
  refine Leave.le (v' := .tup [encState (bootD p), .nili]) (Le.tupL ⟨?_, Le.refl _, trivial⟩) ?_
  · exact Le.aggL ⟨Le.refl _, Le.refl _, Le.refl _, Le.refl _, Le.refl _, Le.csl [], Le.eq (by rw [← hup]; rfl), Le.refl _, le_port _, Le.refl _, trivial⟩
  · exact Leave.data (put_keeps (f 4) (put_keeps (f 3) (put_keeps (f 2) (put_keeps (f 8) (put_keeps (f 7) (put_keeps (f 6) hk)))))) (by simp) hQ
noncomputable def bootAns (p : PlanD) : StateD := if planE p = .none then bootD p else zeroD
theorem planBoot_spec {X : Ctx} (hS : Sent X) (p : PlanD) (hp : p.Small) : ACalc X 6 [encPlan p] (.tup [encState (bootAns p), encErr (planErr p)]) := by
  intro H
  by_cases he : planE p = .none
  · refine (planBoot_live hS p hp he H).leave fun v K h => bootLive_leave h ⟨?_, rfl⟩
    simp [bootAns, planErr, he, encErr]
  · refine acalls' (N := 82) (rs := [.cell 2 39, .tmp 3]) [20, 27, 50, 56, 78] (by rw [hS.P]; exact Tryz.func6) rfl rfl rfl (by decide) (by simp) ?_
    have f1 : H.get (H.nx + 1) = .free := AH.free_add H 1
    simp [entryR, hS.P]
    refine (planCheck_spec hS p hp).go ?_
    obtain ⟨T, v, hT⟩ := encErr_iface he
    simp [hS.P, hT]
    rw [aC_draw (hc := by kernel_rfl)]
    simp [hS.P, hS.e8]
    refine Leave.le (v' := .tup [encState zeroD, sentV 8]) (Le.tupL ⟨Le.aggL ⟨Le.refl _, Le.refl _, Le.refl _, Le.csl _, Le.csl _, Le.csl _, Le.csl _, Le.csl _, Le.csl _, Le.csl _, trivial⟩, Le.refl _, trivial⟩) ?_
    exact Leave.data (put_keeps f1 (put_keeps (by simp) (keeps_refl H))) (by simp) ⟨by simp [bootAns, planErr, he, encErr], rfl⟩
end Go.Proofs.YtndoembhbfiokaaGreatDoor.Am
set_option linter.unusedVariables false
set_option linter.unusedSimpArgs false
namespace Go.Proofs.YtndoembhbfiokaaGreatDoor.Am
open Go.RowKit Go.Proofs

theorem seal_live {X : Ctx} (hS : Sent X) (b : List UInt8) (hl : b.length ≤ 1073741824) (H : AH) : ACalls X 60 [.fsl (b.map encB)] H fun v K => v = .sl H.nx 1 0 (b.length + 4) ∧ K = H.put H.nx (.row ((b ++ laidB (sumB b)).map encB) 1 1) := by
  refine acalls' (N := 9) (rs := [.tmp 2]) [8] (by rw [hS.P]; exact Tryz.func60) rfl rfl rfl (by decide) (by simp) ?_
  simp [entryR, hS.P]
  refine (bclone_live hS b hl H).mono ?_
  rintro _ _ ⟨rfl, rfl⟩
  simp [hS.P]
  refine (sum32_spec hS b hl).go ?_
  simp [hS.P]
  refine (laid_spec hS (sumB b)).go ?_
  have h4 : (laidB (sumB b)).length = 4 := rfl
  simp [hS.P, h4]
  refine aIf_mk (by omega) ?_
  simp [hS.P, h4]
  exact Leave.stay ⟨rfl, rfl⟩
structure BytesLive (H : AH) (p : PlanD) (v : AV) (K : AH) : Prop where
  id : ∃ id ver, H.get id = .free ∧ v = .tup [.sl id ver 0 (sealB (planB p)).length, .nili] ∧ K.get id = .row ((sealB (planB p)).map encB) 1 ver ∧ ∀ i, H.get i = .free → i ≠ id → (K.get i).killed = K.get i
  keep : ∀ i, H.get i ≠ .free → K.get i = H.get i
theorem planBytes_live {X : Ctx} (hS : Sent X) (p : PlanD) (hp : p.Small) (he : planE p = .none) (H : AH) : ACalls X 22 [encPlan p] H (BytesLive H p) := by
  refine acalls' (N := 55) (rs := [.tmp 2, .tmp 3]) [23] (by rw [hS.P]; exact Tryz.func22) rfl rfl rfl (by decide) (by simp) ?_
  have hk0 : ∀ i, H.get i ≠ .free → (H.put H.nx (.row [encPlan p] 7 0)).get i = H.get i := put_keeps (by simp) (keeps_refl H)
  simp [entryR, hS.P]
  refine (planCheck_spec hS p hp).go ?_
  have hin := planIn he
  have hg := recs5_good hin
  have hlen := recs_len hin
  simp [hS.P, he, encErr]
  refine (records_spec hS p hin (H.put H.nx (.row [encPlan p] 7 0))).mono ?_
  rw [AH.nx_fresh]
  intro v K hv
  obtain ⟨rfl, hW, hk⟩ := hv
  have g0 : K.get H.nx = .row [encPlan p] 7 0 := by rw [hk _ (by simp)]; simp
  simp [hS.P]
  refine (wdone_spec hS _ _ (recs5 p) hW (by omega)).mono ?_
  intro v K2 hv
  rw [hv.1, hv.2]
  clear hv v K2
  simp [hS.P, WSt.done, hg.out, hg.err, encErr, encBytes]
  have hkH : ∀ i, H.get i ≠ .free → K.get i = H.get i := fun i hi => by rw [hk i (by rw [hk0 i hi]; exact hi), hk0 i hi]
  have hbl : (bodyB p).length ≤ 2319 := by rw [← hg.data]; omega
  generalize hB : bodyB p = B at hbl
  refine (new_spec hS K).mono ?_
  rintro _ _ ⟨rfl, rfl⟩
  simp [hS.P]
  generalize hM : (AH.put _ (K.nx + 1) WSt.new.buf) = M
  have wM : WS M K.nx (K.nx + 1) WSt.new := by rw [← hM]; exact ⟨by simp, by simp, by omega⟩
  have hlt := AH.lt_nx (AH.ne_free g0)
  have gM : M.get H.nx = .row [encPlan p] 7 0 := by rw [← hM, AH.put_ne _ _ (by omega), AH.put_ne _ _ (by omega)]; exact g0
  have f1 : H.get K.nx = .free := keepsNx hkH
  have f2 : H.get (K.nx + 1) = .free := by
    have := keepsNx (put_keeps (s := WSt.new.slot (K.nx + 1)) f1 hkH)
    rwa [AH.nx_fresh] at this
  have kM : ∀ i, H.get i ≠ .free → M.get i = H.get i := by rw [← hM]; exact put_keeps f2 (put_keeps f1 hkH)
  refine ACalls.frz M.nx 0 1 (magicB.map encB) [.ptr K.nx 0 0 0, .fsl (magicB.map encB)] (by rw [AH.put_same]; rfl) ⟨.refl _, Frz.all rfl, trivial⟩ ?_
  rw [AH.put_put]
  have wN := wM.other (AH.fresh M) .dead
  have gN : (M.put M.nx .dead).get H.nx = .row [encPlan p] 7 0 := by rw [AH.put_ne _ _ (by have := AH.lt_nx (AH.ne_free gM); omega)]; exact gM
  have kN : ∀ i, H.get i ≠ .free → (M.put M.nx .dead).get i = H.get i := put_keeps (keepsNx kM) kM
  generalize M.put M.nx .dead = N at wN gN kN
  have gU : ∀ t : WSt, (N.upd (wwr K.nx (K.nx + 1) t)).get H.nx = .row [encPlan p] 7 0 := fun t => (wwr_other (by omega) (by omega)).trans gN
  have m1 : mostOf 1 = 255 := rfl
  have m2 : mostOf 2 = 65535 := rfl
  have m4 : mostOf 4 = 4294967295 := rfl
  have a1 := WGood.new.put magicB
  refine (wraw_spec hS K.nx (K.nx + 1) WSt.new magicB _ (.inl rfl) (by decide)).go wN ?_
  have l1 : (WSt.new.put magicB).data.length = 4 := by rw [a1.data]; rfl
  generalize WSt.new.put magicB = s1 at a1 l1
  simp [hS.P]
  have a2 := a1.num (n := 1) (k := 2) (by omega) (by omega)
  refine (u16_spec hS K.nx (K.nx + 1) s1 1 (by omega)).go (wN.upd _) ?_
  have l2 : (s1.num 1 2).data.length = 6 := by rw [a2.data]; rfl
  generalize s1.num 1 2 = s2 at a2 l2
  have v1 : IntKind.i64.wrap (15 + (B.length : Int)) = 15 + B.length := wrap64 (by omega) (by omega)
  have v2 : IntKind.i64.wrap (15 + (B.length : Int) + 4) = 15 + B.length + 4 := wrap64 (by omega) (by omega)
  simp [hS.P, wN.upd_upd, v1, v2]
  have a3 := a2.num (n := 15 + (B.length : Int) + 4) (k := 4) (by omega) (by omega)
  refine (wu32_spec hS K.nx (K.nx + 1) s2 (15 + (B.length : Int) + 4) (by omega)).go (wN.upd _) ?_
  have l3 : (s2.num (15 + (B.length : Int) + 4) 4).data.length = 10 := by rw [a3.data, List.length_append, beB_len, ← a2.data, l2]
  generalize s2.num (15 + (B.length : Int) + 4) 4 = s3 at a3 l3
  have hid := hin.id
  simp [hS.P, wN.upd_upd, gU]
  have a4 := a3.num (n := p.id) (k := 4) (by omega) (by omega)
  refine (wu32_spec hS K.nx (K.nx + 1) s3 p.id (by omega)).go (wN.upd _) ?_
  have l4 : (s3.num p.id 4).data.length = 14 := by rw [a4.data, List.length_append, beB_len, ← a3.data, l3]
  generalize s3.num p.id 4 = s4 at a4 l4
  simp [hS.P, wN.upd_upd, gU]
  have a5 := a4.put (flagB p.mobile)
  refine (wflag_spec hS K.nx (K.nx + 1) s4 p.mobile (by omega)).go (wN.upd _) ?_
  have l5 : (s4.put (flagB p.mobile)).data.length = 15 := by rw [a5.data, List.length_append, ← a4.data, l4]; rfl
  generalize s4.put (flagB p.mobile) = s5 at a5 l5
  simp [hS.P, wN.upd_upd, gU]
  have a6 := a5.put B
  refine (wraw_spec hS K.nx (K.nx + 1) s5 B _ (.inl rfl) (by omega)).go (wN.upd _) ?_
  have l6 : (s5.put B).data.length = 15 + B.length := by rw [a6.data, List.length_append, ← a5.data, l5]
  generalize s5.put B = s6 at a6 l6
  simp [hS.P, wN.upd_upd, gU]
  refine (wdone_spec hS _ _ s6 (wN.upd s6) (by omega)).mono ?_
  intro v K2 hv
  rw [hv.1, hv.2]
  clear hv v K2
  have hpB : ([] ++ magicB ++ beB 1 2 ++ beB (15 + (B.length : Int) + 4) 4 ++ beB p.id 4 ++ flagB p.mobile ++ B) = planB p := by rw [← hB]; rfl
  rw [hpB] at a6
  simp [hS.P, WSt.done, a6.out, a6.err, encErr, encBytes]
  have kU := WS.keeps (s := s6) f1 f2 kN
  generalize N.upd (wwr K.nx (K.nx + 1) s6) = V at kU ⊢
  refine (seal_live hS (planB p) (by rw [← a6.data]; omega) V).mono ?_
  rintro _ _ ⟨rfl, rfl⟩
  simp
  have hf : H.get V.nx = .free := keepsNx kU
  refine Leave.kill (newS H fun i => i == V.nx) (Leave.stay ⟨⟨V.nx, 1, hf, ?_, ?_, ?_⟩, ?_⟩)
  · rw [sealB, List.length_append]; rfl
  · rw [kill_get, newS_kept (by simp), AH.put_same]; simp [sealB]
  · intro i hi hne
    rw [kill_get, newS_new hi (by simpa using hne)]
    simp
  · intro i hi
    rw [kill_get, newS_old hi]
    exact put_keeps hf kU i hi
end Go.Proofs.YtndoembhbfiokaaGreatDoor.Am
set_option linter.unusedVariables false
set_option linter.unusedSimpArgs false
namespace Go.Proofs.YtndoembhbfiokaaGreatDoor.Am
open Go.RowKit Go.Proofs

noncomputable def boundAns (p : PlanD) : Int := if planE p = .none then boundI p else 0
noncomputable def spanAns (p : PlanD) : Int := if planE p = .none then 64 * p.pages.length else 0
noncomputable def planCode (p : PlanD) : Int := if planE p = .none then 0 else 8
theorem planBound_spec {X : Ctx} (hS : Sent X) (p : PlanD) (hp : p.Small) : ACalc X 20 [encPlan p] (.tup [.int .i64 (boundAns p), encErr (planErr p)]) := by
  intro H
  refine acalls' (N := 10) (rs := [.tmp 2, .tmp 3]) [] (by rw [hS.P]; exact Tryz.func20) rfl rfl rfl (by decide) (by simp) ?_
  have hk0 : ∀ i, H.get i ≠ .free → (H.put H.nx (.row [encPlan p] 7 0)).get i = H.get i := put_keeps (by simp) (keeps_refl H)
  simp [entryR, hS.P]
  refine (planCheck_spec hS p hp).go ?_
  by_cases he : planE p = .none
  · have h5 := (planIn he).events
    simp [hS.P, he, encErr]
    refine (bound_spec hS p hp (by omega)).go ?_
    simp [hS.P]
    exact Leave.data hk0 (by simp) ⟨by simp [boundAns, planErr, he, encErr], rfl⟩
  · obtain ⟨T, v, hT⟩ := encErr_iface he
    simp [hS.P, hT]
    rw [aC_draw (hc := by kernel_rfl)]
    simp [hS.P, hS.e8]
    exact Leave.data hk0 (by simp) ⟨by simp [boundAns, planErr, he, encErr], rfl⟩
theorem planErr_ok (p : PlanD) : (planErr p).Ok := by
  unfold planErr; split <;> simp [PE.Ok]
theorem same10_spec {X : Ctx} (hS : Sent X) (e : PE) (he : e.Ok) (n : Int) : ACalc X 9 [encErr e, .int .i64 n] (.bool (decide (e.code = n ∧ e.place = -1))) := by
  intro H
  refine acalls' (N := 14) (rs := [.tmp 4]) [] (by rw [hS.P]; exact Tryz.func9) rfl rfl rfl (by decide) (by simp) ?_
  simp [entryR, hS.P]
  refine (code_spec hS e he).go ?_
  by_cases h : e.code = n
  · simp [hS.P, h]
    refine (place_spec hS e).go ?_
    simp [hS.P]
    exact Leave.data (keeps_refl _) (by simp) ⟨by simp [h], rfl⟩
  · simp [hS.P, h]
    exact Leave.data (keeps_refl _) (by simp) ⟨by simp [h], rfl⟩
def small10 : PlanD := ⟨3, true, [⟨5, [97, 98]⟩, ⟨3, []⟩], [⟨0, 7, true⟩, ⟨64, 9, false⟩], [⟨1, 4, 1, 2⟩, ⟨4, 8, 2, 0⟩], 1, [2]⟩
def small66 : PlanD := { small10 with procs := [⟨0, 7, true⟩, ⟨66, 9, false⟩] }
/-- The plan with its processes in a row of their own. -/
def small10V (i : Nat) : AV := .agg [.int .i64 3, .bool true, .fsl (small10.pages.map encPage), .sl i 0 0 2, .fsl (small10.ports.map encPort), .int .i64 1, .fsl (small10.sems.map encInt)]
structure SmallLive (H : AH) (v : AV) (K : AH) : Prop where
  id : ∃ id, H.get id = .free ∧ v = small10V id ∧ K.get id = .row (small10.procs.map encProc) 3 0 ∧ ∀ i, H.get i = .free → i ≠ id → (K.get i).killed = K.get i
  keep : ∀ i, H.get i ≠ .free → K.get i = H.get i
theorem small10_live {X : Ctx} (hS : Sent X) (H : AH) : ACalls X 19 [] H (SmallLive H) := by
  refine acalls' (N := 12) (rs := [.cell 0 27]) [6] (by rw [hS.P]; exact Tryz.func19) rfl rfl rfl (by decide) (by simp) ?_
  simp [entryR, hS.P]
  have f0 := AH.fresh H
  have f1 : H.get (H.nx + 1) = .free := AH.free_add H 1
  refine Leave.le (v' := small10V (H.nx + 1)) (Le.aggL ⟨Le.refl _, Le.refl _, Le.csl _, Le.refl _, Le.csl _, Le.refl _, Le.csl _, trivial⟩) ?_
  refine Leave.kill (newS H fun i => i == H.nx + 1) (Leave.stay ⟨⟨H.nx + 1, f1, rfl, ?_, ?_⟩, ?_⟩)
  · rw [kill_get, newS_kept (by simp), AH.put_ne _ _ (by omega), AH.put_same]; rfl
  · intro i hi hne
    rw [kill_get, newS_new hi (by simpa using hne)]
    simp
  · intro i hi
    rw [kill_get, newS_old hi]
    exact put_keeps f0 (put_keeps f1 (put_keeps f0 (keeps_refl H))) i hi
theorem small10_spec {X : Ctx} (hS : Sent X) : ACalc X 19 [] (encPlan small10) := by
  intro H
  refine (small10_live hS H).leave fun v K h => ?_
  obtain ⟨⟨id, hf, rfl, hr, hk⟩, hkeep⟩ := h
  refine Leave.frz (v' := encPlan small10) hr ?_ ?_
  · refine .agg _ _ rfl fun j u v k1 k2 => ?_
    rcases j with _ | _ | _ | _ | _ | _ | _ | j <;> simp [small10V, encPlan] at k1 k2 <;> subst k1 k2 <;> first | exact .refl _ | exact Frz.all rfl
  · exact Leave.data (put_keeps hf hkeep) (by simp) ⟨rfl, rfl⟩
theorem small10_small : small10.Small := ⟨by decide, by decide, by decide, by decide⟩
theorem small66_small : small66.Small := ⟨by decide, by decide, by decide, by decide⟩
theorem small10_ok : planE small10 = .none := by decide
theorem small66_bad : planE small66 = .at 1 4 := by decide
theorem small10_bound : boundI small10 = 363 := by decide
theorem small10_bytes : (sealB (planB small10)).length = 69 := by decide
theorem small10_head : (sealB (planB small10)).take 15 = [70, 80, 76, 78, 0, 1, 0, 0, 0, 69, 0, 0, 0, 3, 1] := by decide
end Go.Proofs.YtndoembhbfiokaaGreatDoor.Am
