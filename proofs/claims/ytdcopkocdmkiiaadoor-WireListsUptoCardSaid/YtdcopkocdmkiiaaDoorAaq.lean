/- The logic and the contracts that the law stands on, part 17 of 20. -/
import Derived.Test.YtdcopkocdmkiiaaDoorAap
set_option linter.unusedVariables false
set_option linter.unusedSimpArgs false
namespace Go.Proofs.YtdcopkocdmkiiaaDoor.Am
open Go.RowKit Go.Proofs

/-- A cursor. -/
structure CSt where
  b : List UInt8
  at_ : Nat
  bound : Nat
def CSt.val (c : CSt) : AV := .agg [encBytes c.b, .int .i64 c.at_, .int .i64 c.bound]
structure CSt.Ok (c : CSt) : Prop where
  le : c.at_ ≤ c.bound
  le2 : c.bound ≤ c.b.length
  small : c.b.length ≤ 1073741824
/-- A cursor behind a pointer, still to be moved or not. -/
def CPtr (H : AH) (p : AV) (c : CSt) : Prop := (∃ i, p = .ptr i 0 0 0 ∧ H.get i = .row [c.val] 3 0) ∨ p = .eptr [c.val] 0 0

theorem left_spec {X : Ctx} (hS : Sent X) {H : AH} {p : AV} {c : CSt} (hp : CPtr H p c) (hc : c.Ok) : ACalls X 77 [p] H fun v H' => v = .int .i64 ((c.bound : Int) - c.at_) ∧ H' = H := by
  refine acalls' (N := 12) (rs := [.tmp 2]) [] (by rw [hS.P]; exact Tryd.func77) rfl rfl rfl (by decide) (by simp) ?_
  obtain ⟨h1, h2, h3⟩ := hc
  have e1 : IntKind.i64.wrap ((c.bound : Int) - c.at_) = (c.bound : Int) - c.at_ := wrap64 (by omega) (by omega)
  rcases hp with ⟨i, rfl, hi⟩ | rfl
  · simp [entryR, hS.P]
    rw [aC_draw (hc := by kernel_rfl)]
    simp [hS.P, hi, CSt.val, e1]
    refine aIf_mk (chkH_reads (by simp)) ?_
    simp
    exact Leave.data (keeps_refl _) (by simp) (by simp)
  · simp [entryR, hS.P]
    rw [aC_draw (hc := by kernel_rfl)]
    simp [hS.P, CSt.val, e1]
    exact Leave.data (keeps_refl _) (by simp) (by simp)
theorem open_spec {X : Ctx} (hS : Sent X) (b : List UInt8) (hb : b.length ≤ 1073741824) (H : AH) : ACalls X 74 [.fsl (b.map encB)] H fun v H' => v = .ptr H.nx 0 0 0 ∧ H' = H.put H.nx (.row [CSt.val ⟨b, 0, b.length⟩] 3 0) := by
  refine acalls' (N := 9) (rs := [.tmp 2]) [] (by rw [hS.P]; exact Tryd.func74) rfl rfl rfl (by decide) (by simp) ?_
  simp [entryR, hS.P]
  refine (clone_spec hS.P b hb).go ?_
  simp [hS.P]
  refine Leave.stay ⟨rfl, ?_⟩
  simp [CSt.val, encBytes]
theorem body_spec {X : Ctx} (hS : Sent X) {H : AH} {p : AV} {c : CSt} (hp : CPtr H p c) (hc : c.Ok) : ACalls X 87 [p] H fun v H' => v = encBytes ((c.b.drop c.at_).take (c.bound - c.at_)) ∧ H' = H := by
  refine acalls' (N := 17) (rs := [.tmp 2]) [] (by rw [hS.P]; exact Tryd.func87) rfl rfl rfl (by decide) (by simp) ?_
  obtain ⟨h1, h2, h3⟩ := hc
  have e1 : ((c.bound : Int) - c.at_).toNat = c.bound - c.at_ := by omega
  have key : ∀ K : Post, K (encBytes ((c.b.drop c.at_).take (c.bound - c.at_))) [] [] → aCall X 139 [.fsl (((c.b.map encB).drop c.at_).take (c.bound - c.at_))] H K := fun K hK => by
    have := (clone_spec hS.P ((c.b.drop c.at_).take (c.bound - c.at_)) (by simp; omega)).call (H := H) hK
    simpa [List.map_take, List.map_drop] using this
  rcases hp with ⟨i, rfl, hi⟩ | rfl
  · simp [entryR, hS.P]
    rw [aC_draw (hc := by kernel_rfl)]
    simp [hS.P, hi, CSt.val, encBytes, h1, h2, e1]
    refine key _ ?_
    simp
    refine aIf_mk (chkH_reads (by simp)) ?_
    simp
    exact Leave.data (keeps_refl _) (by simp) (by simp [encBytes])
  · simp [entryR, hS.P]
    rw [aC_draw (hc := by kernel_rfl)]
    simp [hS.P, CSt.val, encBytes, h1, h2, e1]
    refine key _ ?_
    simp
    exact Leave.data (keeps_refl _) (by simp) (by simp [encBytes])

/-- The number of some bytes, the highest first. -/
def numOf (l : List UInt8) : Int := l.foldl (fun n b => n * 256 + b.toNat) 0
theorem numOf_snoc (l : List UInt8) (b : UInt8) : numOf (l ++ [b]) = numOf l * 256 + b.toNat := by simp [numOf]
theorem fold_bound : ∀ (l : List UInt8) (n : Int) (k : Nat), 0 ≤ n → n < 256 ^ k → 0 ≤ l.foldl (fun (n : Int) (b : UInt8) => n * 256 + (b.toNat : Int)) n ∧ l.foldl (fun (n : Int) (b : UInt8) => n * 256 + (b.toNat : Int)) n < 256 ^ (k + l.length)
  | [], n, k, h0, h1 => ⟨h0, by simpa using h1⟩
  | b :: l, n, k, h0, h1 => by
    have hb := b.toNat_lt
    have h2 : n * 256 + (b.toNat : Int) < 256 ^ (k + 1) := by rw [Int.pow_succ]; omega
    have := fold_bound l (n * 256 + b.toNat) (k + 1) (by omega) h2
    simp only [List.foldl_cons, List.length_cons]
    rw [show k + (l.length + 1) = k + 1 + l.length by omega]
    exact this
theorem numOf_bound (l : List UInt8) : 0 ≤ numOf l ∧ numOf l < 256 ^ l.length := by
  have := fold_bound l 0 0 (by omega) (by simp)
  rw [Nat.zero_add] at this
  exact this
theorem or_add (n : Int) (b : Nat) (h0 : 0 ≤ n) (h1 : n < 4294967296) (hb : b < 256) :
    IntKind.i64.wrap (((BitVec.ofInt IntKind.i64.bits (IntKind.i64.wrap (n * 2 ^ min 8 IntKind.i64.bits)) ||| BitVec.ofInt IntKind.i64.bits (b : Int)).toNat : Nat) : Int) = n * 256 + b := by
  obtain ⟨m, rfl⟩ := Int.eq_ofNat_of_zero_le h0
  have e1 : IntKind.i64.wrap ((m : Int) * 2 ^ min 8 IntKind.i64.bits) = ((m * 256 : Nat) : Int) := by
    rw [show min 8 IntKind.i64.bits = 8 from rfl, wrap64 (by omega) (by omega)]; simp
  rw [e1, show IntKind.i64.bits = 64 from rfl]
  have e2 : (BitVec.ofInt 64 ((m * 256 : Nat) : Int) ||| BitVec.ofInt 64 (b : Int)).toNat = m * 256 + b := by
    rw [BitVec.toNat_or, BitVec.ofInt_natCast, BitVec.ofInt_natCast, BitVec.toNat_ofNat, BitVec.toNat_ofNat, Nat.mod_eq_of_lt (by omega), Nat.mod_eq_of_lt (by omega)]
    rw [show m * 256 = m <<< 8 by simp [Nat.shiftLeft_eq], ← Nat.shiftLeft_add_eq_or_of_lt (by omega)]
  rw [e2, wrap64 (by omega) (by omega)]
  simp

theorem peek_spec {X : Ctx} (hS : Sent X) {H : AH} {p : AV} {c : CSt} (hp : CPtr H p c) (hc : c.Ok) (off w : Nat) (hw : w ≤ 4) (hle : c.at_ + off + w ≤ c.bound) :
    ACalls X 198 [p, .int .i64 off, .int .i64 w] H fun v H' => v = .int .i64 (numOf ((c.b.drop (c.at_ + off)).take w)) ∧ H' = H := by
  refine acalls' (N := 41) (rs := [.tmp 6]) [] (by rw [hS.P]; exact Tryd.func198) rfl rfl rfl (by decide) (by simp) ?_
  obtain ⟨h1, h2, h3⟩ := hc
  have e1 : IntKind.i64.wrap ((c.at_ : Int) + off) = (c.at_ : Int) + off := wrap64 (by omega) (by omega)
  have e2 : IntKind.i64.wrap ((c.at_ : Int) + off + w) = (c.at_ : Int) + off + w := wrap64 (by omega) (by omega)
  have q1 : (0 : Int) ≤ (c.at_ : Int) + off := by omega
  have q2 : (c.at_ : Int) + off ≤ (c.at_ : Int) + off + w := by omega
  have q3 : (c.at_ : Int) + off + w ≤ c.b.length := by omega
  have q4 : ((c.at_ : Int) + off + w - ((c.at_ : Int) + off)).toNat = w := by omega
  have q5 : ((c.at_ : Int) + off).toNat = c.at_ + off := by omega
  generalize hxs : (c.b.drop (c.at_ + off)).take w = xs
  have hlen : xs.length = w := by rw [← hxs]; simp; omega
  have hmap : List.take w (List.drop (c.at_ + off) (List.map encB c.b)) = xs.map encB := by rw [← hxs]; simp [List.map_take, List.map_drop]
  rcases hp with ⟨i, rfl, hi⟩ | rfl
  · simp [entryR, hS.P]
    rw [aC_draw (hc := by kernel_rfl)]
    simp [hS.P, hi, CSt.val, encBytes, e1, e2, q1, q2, q3, q4, q5, hmap, hlen]
    refine aIf_mk (chkH_reads (by simp)) ?_
    simp
    refine AWp.loop (S := Nat) (fun n => n ≤ w) (fun n => [(7, .int .i64 (numOf (xs.take n))), (28, .fsl (xs.map encB)), (29, .int .i64 w), (30, .int .i64 n)]) (fun n => H) (fun n => w - n) 0 (Nat.zero_le _) ?_ fun n hn => ?_
    · exact Wk.regs (by simp [numOf])
    · refine aC_sound (lv := []) _ _ _ _ ?_
      simp
      refine aCond_dec (fun hlt => ?_) (fun hge => ?_)
      · obtain ⟨b, hb⟩ : ∃ b, xs[n]? = some b := ⟨xs[n], List.getElem?_eq_getElem (by omega)⟩
        have hbn := numOf_bound (xs.take n)
        have hb3 : numOf (xs.take n) < 4294967296 := by
          have h4 : (xs.take n).length = n := by simp; omega
          have h5 : (256 : Int) ^ n ≤ 16777216 := by rcases (by omega : n = 0 ∨ n = 1 ∨ n = 2 ∨ n = 3) with h | h | h | h <;> rw [h] <;> decide
          rw [h4] at hbn
          omega
        have hb256 := b.toNat_lt
        have e3 : IntKind.i64.wrap ((n : Int) + 1) = ((n + 1 : Nat) : Int) := by rw [wrap64 (by omega) (by omega)]; simp
        have e4 : IntKind.i64.wrap (b.toNat : Int) = b.toNat := wrap64 (by omega) (by omega)
        have e5 := or_add (numOf (xs.take n)) b.toNat hbn.1 hb3 hb256
        have e6 : numOf (xs.take (n + 1)) = numOf (xs.take n) * 256 + b.toNat := by rw [List.take_add_one, hb]; exact numOf_snoc _ _
        simp [hS.P, hb, encB, e3, e4, e5, -BitVec.toNat_or, -BitVec.ofInt_natCast]
        exact ⟨n + 1, by omega, by omega, Wk.regs (by simp [e6, e5, e3, -BitVec.toNat_or, -BitVec.ofInt_natCast])⟩
      · obtain rfl : n = w := by omega
        simp
        refine Leave.data (keeps_refl _) (by simp) ?_
        simp [List.take_of_length_le, hlen]
  · simp [entryR, hS.P]
    rw [aC_draw (hc := by kernel_rfl)]
    simp [hS.P, CSt.val, encBytes, e1, e2, q1, q2, q3, q4, q5, hmap, hlen]
    refine AWp.loop (S := Nat) (fun n => n ≤ w) (fun n => [(7, .int .i64 (numOf (xs.take n))), (28, .fsl (xs.map encB)), (29, .int .i64 w), (30, .int .i64 n)]) (fun n => H) (fun n => w - n) 0 (Nat.zero_le _) ?_ fun n hn => ?_
    · exact Wk.regs (by simp [numOf])
    · refine aC_sound (lv := []) _ _ _ _ ?_
      simp
      refine aCond_dec (fun hlt => ?_) (fun hge => ?_)
      · obtain ⟨b, hb⟩ : ∃ b, xs[n]? = some b := ⟨xs[n], List.getElem?_eq_getElem (by omega)⟩
        have hbn := numOf_bound (xs.take n)
        have hb3 : numOf (xs.take n) < 4294967296 := by
          have h4 : (xs.take n).length = n := by simp; omega
          have h5 : (256 : Int) ^ n ≤ 16777216 := by rcases (by omega : n = 0 ∨ n = 1 ∨ n = 2 ∨ n = 3) with h | h | h | h <;> rw [h] <;> decide
          rw [h4] at hbn
          omega
        have hb256 := b.toNat_lt
        have e3 : IntKind.i64.wrap ((n : Int) + 1) = ((n + 1 : Nat) : Int) := by rw [wrap64 (by omega) (by omega)]; simp
        have e4 : IntKind.i64.wrap (b.toNat : Int) = b.toNat := wrap64 (by omega) (by omega)
        have e5 := or_add (numOf (xs.take n)) b.toNat hbn.1 hb3 hb256
        have e6 : numOf (xs.take (n + 1)) = numOf (xs.take n) * 256 + b.toNat := by rw [List.take_add_one, hb]; exact numOf_snoc _ _
        simp [hS.P, hb, encB, e3, e4, e5, -BitVec.toNat_or, -BitVec.ofInt_natCast]
        exact ⟨n + 1, by omega, by omega, Wk.regs (by simp [e6, e5, e3, -BitVec.toNat_or, -BitVec.ofInt_natCast])⟩
      · obtain rfl : n = w := by omega
        simp
        refine Leave.data (keeps_refl _) (by simp) ?_
        simp [List.take_of_length_le, hlen]
end Go.Proofs.YtdcopkocdmkiiaaDoor.Am
set_option linter.unusedVariables false
set_option linter.unusedSimpArgs false
namespace Go.Proofs.YtdcopkocdmkiiaaDoor.Am
open Go.RowKit Go.Proofs

def CSt.num (c : CSt) (off w : Nat) : Int := numOf ((c.b.drop (c.at_ + off)).take w)
/-- A record's head: its tag, its body's length, or why there is none. -/
def CSt.head (c : CSt) : AV := if c.bound - c.at_ < 3 then .tup [.int .i64 0, .int .i64 0, encErr (.at c.at_ 1)] else .tup [.int .i64 (c.num 0 1), .int .i64 (c.num 1 2), encErr .none]
theorem head_spec {X : Ctx} (hS : Sent X) {H : AH} {i : Nat} {c : CSt} (hi : H.get i = .row [c.val] 3 0) (hc : c.Ok) : ACalls X 140 [.ptr i 0 0 0] H fun v H' => v = c.head ∧ H' = H := by
  have hp : CPtr H (.ptr i 0 0 0) c := .inl ⟨i, rfl, hi⟩
  refine acalls' (N := 18) (rs := [.tmp 2, .tmp 3, .tmp 4]) [] (by rw [hS.P]; exact Tryd.func140) rfl rfl rfl (by decide) (by simp) ?_
  simp [entryR, hS.P]
  refine (left_spec hS hp hc).mono ?_
  rintro _ _ ⟨rfl, rfl⟩
  obtain ⟨h1, h2, h3⟩ := id hc
  simp
  refine aCond_dec (fun hlt => ?_) (fun hge => ?_)
  · have hs : c.bound - c.at_ < 3 := by omega
    simp
    rw [aC_draw (hc := by kernel_rfl)]
    simp [hS.P, hi, CSt.val, hS.e1]
    refine (at_spec hS c.at_ 1).call ?_
    simp
    exact Leave.data (keeps_refl _) (by simp) (by simp [CSt.head, hs])
  · have hs : ¬ c.bound - c.at_ < 3 := by omega
    simp
    refine (peek_spec hS hp hc 0 1 (by omega) (by omega)).mono ?_
    rintro _ _ ⟨rfl, rfl⟩
    simp
    refine (peek_spec hS hp hc 1 2 (by omega) (by omega)).mono ?_
    rintro _ _ ⟨rfl, rfl⟩
    simp
    exact Leave.data (keeps_refl _) (by simp) (by simp [CSt.head, hs, CSt.num, encErr])

/-- One row of the caller's is turned, nothing else. -/
theorem keep_one {H H' : AH} {i ver sz ver' sz' : Nat} {xs ys : List AV} (hi : H.get i = .row xs sz ver) (hd : Slot.row ys sz' ver' ≠ .free) (hin : (Slot.row ys sz' ver').In fun k => H.get k ≠ .free)
    (h : ∀ k, H.get k ≠ .free → H'.get k = (H.put i (.row ys sz' ver')).get k) : Keep H H' (H.put i (.row ys sz' ver')) := by
  have hf : H.get i ≠ .free := AH.ne_free hi
  refine ⟨fun k hk => ?_, fun k hk => ⟨(h k hk).symm, ?_, ?_⟩⟩
  · have : k ≠ i := by rintro rfl; exact hf hk
    rw [AH.put_ne _ _ this]; exact hk
  · rw [AH.get_put]; split
    · exact hd
    · exact hk
  · rw [AH.get_put]; split
    · exact .inr hin
    · exact .inl rfl
/-- Into a record's body of n bytes. -/
def CSt.inn (c : CSt) (n : Nat) : CSt := ⟨c.b, c.at_ + 3, c.at_ + 3 + n⟩
def CSt.past (c : CSt) (n : Nat) : CSt := ⟨c.b, c.at_ + 3 + n, c.bound⟩
theorem enter_bad {X : Ctx} (hS : Sent X) {H : AH} {i : Nat} {c : CSt} (hi : H.get i = .row [c.val] 3 0) (hc : c.Ok) (n : Nat) (hn2 : n ≤ 65535) (h0 : 3 ≤ c.bound - c.at_) (hn : c.bound - c.at_ - 3 < n) :
    ACalls X 141 [.ptr i 0 0 0, .int .i64 n] H fun v H' => v = .tup [.nilp, encErr (.at (c.at_ + 1) 5)] ∧ H' = H := by
  have hp : CPtr H (.ptr i 0 0 0) c := .inl ⟨i, rfl, hi⟩
  refine acalls' (N := 45) (rs := [.tmp 4, .tmp 5]) [] (by rw [hS.P]; exact Tryd.func141) rfl rfl rfl (by decide) (by simp) ?_
  obtain ⟨h1, h2, h3⟩ := id hc
  have e1 : IntKind.i64.wrap ((c.bound : Int) - c.at_ - 3) = (c.bound : Int) - c.at_ - 3 := wrap64 (by omega) (by omega)
  have e2 : IntKind.i64.wrap ((c.at_ : Int) + 1) = (c.at_ : Int) + 1 := wrap64 (by omega) (by omega)
  simp [entryR, hS.P]
  refine (left_spec hS hp hc).mono ?_
  rintro _ _ ⟨rfl, rfl⟩
  simp [e1]
  refine aCond_dec (fun hlt => ?_) (fun hge => by omega)
  simp
  rw [aC_draw (hc := by kernel_rfl)]
  simp [hS.P, hi, CSt.val, hS.e5, e2]
  refine (at_spec hS _ 5).call ?_
  simp
  exact Leave.data (keeps_refl _) (by simp) (by simp)
theorem enter_ok {X : Ctx} (hS : Sent X) {H : AH} {i : Nat} {c : CSt} (hi : H.get i = .row [c.val] 3 0) (hc : c.Ok) (n : Nat) (h0 : 3 ≤ c.bound - c.at_) (hn : n ≤ c.bound - c.at_ - 3) :
    ACalls X 141 [.ptr i 0 0 0, .int .i64 n] H fun v H' => v = .tup [.eptr [(c.inn n).val] 0 0, .nili] ∧ H' = H.put i (.row [(c.past n).val] 3 0) := by
  have hp : CPtr H (.ptr i 0 0 0) c := .inl ⟨i, rfl, hi⟩
  refine acalls' (N := 45) (rs := [.tmp 4, .tmp 5]) [] (by rw [hS.P]; exact Tryd.func141) rfl rfl rfl (by decide) (by simp) ?_
  obtain ⟨h1, h2, h3⟩ := id hc
  have hne : i ≠ H.nx := by rintro rfl; simp at hi
  have e1 : IntKind.i64.wrap ((c.bound : Int) - c.at_ - 3) = (c.bound : Int) - c.at_ - 3 := wrap64 (by omega) (by omega)
  have e2 : IntKind.i64.wrap ((c.at_ : Int) + 3) = (c.at_ : Int) + 3 := wrap64 (by omega) (by omega)
  have e3 : IntKind.i64.wrap ((c.at_ : Int) + 3 + n) = (c.at_ : Int) + 3 + n := wrap64 (by omega) (by omega)
  simp [entryR, hS.P]
  refine (left_spec hS hp hc).mono ?_
  rintro _ H ⟨rfl, rfl⟩
  simp [e1]
  refine aCond_dec (fun hlt => by omega) (fun hge => ?_)
  simp
  rw [aC_draw (hc := by kernel_rfl)]
  simp [hS.P, hi, CSt.val, e2, e3]
  refine aIf_mk (by simp [chkH, hne, hne.symm]) ?_
  simp [hS.P, hi, CSt.val, hne, hne.symm]
  refine Leave.frz (id := H.nx) (zs := [(c.inn n).val]) (sz := 3) (ver := 0) (by simp [AH.get_put, hne, hne.symm, CSt.val, CSt.inn]) (.tup _ [.eptr [(c.inn n).val] 0 0, .nili] rfl fun j x y h1 h2 => by
    rcases j with _ | _ | j <;> simp at h1 h2
    · subst h1 h2; exact .ptr 0 0
    · subst h1 h2; exact .refl _) ?_
  refine Leave.keep (H'' := H.put i (.row [(c.past n).val] 3 0)) (keep_one hi (by simp) ?_ ?_) ?_ ⟨rfl, rfl⟩
  · intro x hx d hd
    simp only [List.mem_singleton] at hx
    subst hx
    simp [CSt.val] at hd
    rcases hd with rfl | rfl | rfl
    · exact (encBytes_data _).mono fun _ h => h.elim
    · exact .int _ _
    · exact .int _ _
  · intro k hk
    have h4 : k ≠ H.nx := by rintro rfl; simp at hk
    simp [AH.get_put, h4, CSt.val, CSt.past]
  · exact ((show AV.Data (.tup [.eptr [(c.inn n).val] 0 0, .nili]) by simp [CSt.val]).mono fun _ h => h.elim)
end Go.Proofs.YtdcopkocdmkiiaaDoor.Am
set_option linter.unusedVariables false
set_option linter.unusedSimpArgs false
namespace Go.Proofs.YtdcopkocdmkiiaaDoor.Am
open Go.RowKit Go.Proofs

def CSt.len (c : CSt) : Nat := (c.num 1 2).toNat
theorem num_nn (c : CSt) (off w : Nat) : 0 ≤ c.num off w := (numOf_bound _).1
theorem len_eq (c : CSt) : c.num 1 2 = (c.len : Int) := (Int.toNat_of_nonneg (num_nn c 1 2)).symm
theorem len_lt (c : CSt) : c.len ≤ 65535 := by
  have h := (numOf_bound ((c.b.drop (c.at_ + 1)).take 2)).2
  have h2 : ((c.b.drop (c.at_ + 1)).take 2).length ≤ 2 := by simp; omega
  have h3 : (256 : Int) ^ ((c.b.drop (c.at_ + 1)).take 2).length ≤ 65536 := by
    generalize ((c.b.drop (c.at_ + 1)).take 2).length = k at h2
    rcases (by omega : k = 0 ∨ k = 1 ∨ k = 2) with h | h | h <;> rw [h] <;> decide
  have : c.num 1 2 < 65536 := by unfold CSt.num; omega
  rw [len_eq] at this
  omega
/-- What stands in the way of the next record. -/
def CSt.nextE (c : CSt) : PE :=
  if c.bound - c.at_ < 3 then .at c.at_ 1 else if c.num 0 1 = 0 then .at c.at_ 3 else if c.bound - c.at_ - 3 < c.len then .at (c.at_ + 1) 5 else .none

theorem next_bad {X : Ctx} (hS : Sent X) {H : AH} {i : Nat} {c : CSt} (hi : H.get i = .row [c.val] 3 0) (hc : c.Ok) (he : c.nextE ≠ .none) :
    ACalls X 86 [.ptr i 0 0 0] H fun v H' => v = .tup [.int .i64 0, .nilp, encErr c.nextE] ∧ H' = H := by
  refine acalls' (N := 37) (rs := [.tmp 2, .tmp 3, .tmp 4]) [] (by rw [hS.P]; exact Tryd.func86) rfl rfl rfl (by decide) (by simp) ?_
  obtain ⟨h1, h2, h3⟩ := id hc
  simp [entryR, hS.P]
  refine (head_spec hS hi hc).mono ?_
  rintro _ H ⟨rfl, rfl⟩
  by_cases hs : c.bound - c.at_ < 3
  · simp [CSt.head, hs, encErr, hS.P]
    exact Leave.data (keeps_refl _) (by simp) (by simp [CSt.nextE, hs, encErr])
  · simp [CSt.head, hs, encErr, hS.P]
    refine aCond_dec (fun h0 => ?_) (fun h0 => ?_)
    · simp
      rw [aC_draw (hc := by kernel_rfl)]
      simp [hS.P, hi, CSt.val, hS.e3]
      refine (at_spec hS _ 3).call ?_
      simp
      exact Leave.data (keeps_refl _) (by simp) (by simp [CSt.nextE, hs, h0])
    · have hn : c.bound - c.at_ - 3 < c.len := by
        by_cases hn : c.bound - c.at_ - 3 < c.len
        · exact hn
        · exact absurd (by simp [CSt.nextE, hs, h0, hn]) he
      simp [len_eq]
      refine (enter_bad hS hi hc c.len (len_lt c) (by omega) hn).mono ?_
      rintro _ H ⟨rfl, rfl⟩
      simp [encErr, hS.P]
      exact Leave.data (keeps_refl _) (by simp) (by simp [CSt.nextE, hs, h0, hn, encErr])
theorem next_ok {X : Ctx} (hS : Sent X) {H : AH} {i : Nat} {c : CSt} (hi : H.get i = .row [c.val] 3 0) (hc : c.Ok) (he : c.nextE = .none) :
    ACalls X 86 [.ptr i 0 0 0] H fun v H' => v = .tup [.int .i64 (c.num 0 1), .eptr [(c.inn c.len).val] 0 0, .nili] ∧ H' = H.put i (.row [(c.past c.len).val] 3 0) := by
  refine acalls' (N := 37) (rs := [.tmp 2, .tmp 3, .tmp 4]) [] (by rw [hS.P]; exact Tryd.func86) rfl rfl rfl (by decide) (by simp) ?_
  obtain ⟨h1, h2, h3⟩ := id hc
  have hs : ¬ c.bound - c.at_ < 3 := by intro hs; simp [CSt.nextE, hs] at he
  have h0 : ¬ c.num 0 1 = 0 := by intro h0; simp [CSt.nextE, hs, h0] at he
  have hn : ¬ c.bound - c.at_ - 3 < c.len := by intro hn; simp [CSt.nextE, hs, h0, hn] at he
  simp [entryR, hS.P]
  refine (head_spec hS hi hc).mono ?_
  rintro _ H ⟨rfl, rfl⟩
  simp [CSt.head, hs, encErr, hS.P, h0, len_eq]
  refine (enter_ok hS hi hc c.len (by omega) (by omega)).mono ?_
  rintro _ _ ⟨rfl, rfl⟩
  simp [hS.P]
  exact Leave.stay ⟨rfl, rfl⟩
end Go.Proofs.YtdcopkocdmkiiaaDoor.Am
set_option linter.unusedVariables false
set_option linter.unusedSimpArgs false
namespace Go.Proofs.YtdcopkocdmkiiaaDoor.Am
open Go.RowKit Go.Proofs

def CSt.recd (c : CSt) : RecD := ⟨c.num 0 1, (c.b.drop (c.at_ + 3)).take c.len⟩
def splitF : Nat → CSt → List RecD → List RecD × PE
  | 0, _, acc => (acc, .none)
  | k + 1, c, acc => if c.bound - c.at_ = 0 then (acc, .none) else if c.nextE = .none then splitF k (c.past c.len) (acc ++ [c.recd]) else ([], c.nextE)
def split (b : List UInt8) : List RecD × PE := splitF (b.length + 1) ⟨b, 0, b.length⟩ []
def encSplit (x : List RecD × PE) : AV := .tup [.fsl (x.1.map encRec), encErr x.2]
theorem next_ok_at {c : CSt} (hc : c.Ok) (he : c.nextE = .none) : 3 ≤ c.bound - c.at_ ∧ c.len ≤ c.bound - c.at_ - 3 := by
  unfold CSt.nextE at he
  split at he
  · cases he
  · split at he
    · cases he
    · split at he
      · cases he
      · omega
theorem split_spec {X : Ctx} (hS : Sent X) (b : List UInt8) (hb : b.length ≤ 1073741824) : ACalc X 19 [.fsl (b.map encB)] (encSplit (split b)) := by
  intro H
  refine acalls' (N := 31) (rs := [.tmp 2, .tmp 3]) [29] (by rw [hS.P]; exact Tryd.func19) rfl rfl rfl (by decide) (by simp) ?_
  simp [entryR, hS.P]
  refine (open_spec hS b hb H).mono ?_
  rintro _ _ ⟨rfl, rfl⟩
  simp
  refine AWp.loop (S := Nat × CSt × List RecD) (fun p => splitF p.1 p.2.1 p.2.2 = split b ∧ p.2.1.Ok ∧ p.2.1.bound - p.2.1.at_ < p.1 ∧ p.2.2.length ≤ p.2.1.at_)
    (fun p => [(4, .sl (H.nx + 1) p.2.2.length 0 p.2.2.length), (5, .ptr H.nx 0 0 0)]) (fun p => (H.put H.nx (.row [p.2.1.val] 3 0)).put (H.nx + 1) (.row (p.2.2.map encRec) 2 p.2.2.length)) (fun p => p.1)
    (b.length + 1, ⟨b, 0, b.length⟩, []) ⟨rfl, ⟨by simp, by simp, hb⟩, by simp, by simp⟩ ?_ fun p hp => ?_
  · exact Wk.mat (id := H.nx + 1) 2 (by simp [AH.free_add H 1]) (by simp [Mat])
  · obtain ⟨k, c, acc⟩ := p
    obtain ⟨hF, hc, hk, hacc⟩ := hp
    simp only at hF hc hk hacc
    obtain ⟨k, rfl⟩ : ∃ j, k = j + 1 := ⟨k - 1, by omega⟩
    obtain ⟨h1, h2, h3⟩ := id hc
    generalize hK : (H.put H.nx (.row [c.val] 3 0)).put (H.nx + 1) (.row (acc.map encRec) 2 acc.length) = K
    have hi : K.get H.nx = .row [c.val] 3 0 := by rw [← hK]; simp
    have ho : K.get (H.nx + 1) = .row (acc.map encRec) 2 acc.length := by rw [← hK]; simp
    have keeps : ∀ i, H.get i ≠ .free → K.get i = H.get i := by rw [← hK]; exact put_keeps (AH.free_add H 1) (put_keeps (by simp) (keeps_refl H))
    refine aC_sound (lv := [29]) _ _ _ _ ?_
    simp [hS.P]
    refine (left_spec hS (.inl ⟨_, rfl, hi⟩) hc).mono ?_
    rintro _ K2 ⟨rfl, rfl⟩
    simp
    refine aCond_dec (fun hlt => ?_) (fun hge => ?_)
    · have hne : ¬ c.bound - c.at_ = 0 := by omega
      simp
      by_cases he : c.nextE = .none
      · refine (next_ok hS hi hc he).mono ?_
        rintro _ K3 ⟨rfl, rfl⟩
        obtain ⟨n1, n2⟩ := next_ok_at hc he
        simp [hS.P]
        refine (body_spec hS (c := c.inn c.len) (.inr rfl) ⟨by simp [CSt.inn], by simp [CSt.inn]; omega, h3⟩).mono ?_
        rintro _ K4 ⟨rfl, rfl⟩
        simp [hS.P, ho]
        refine aIf_mk (by omega) ?_
        simp
        refine ⟨k, c.past c.len, acc ++ [c.recd], ⟨?_, ⟨?_, h2, h3⟩, ?_, ?_⟩, by omega, ?_⟩
        · rw [← hF]; simp [splitF, hne, he]
        · simp [CSt.past]; omega
        · simp [CSt.past]; omega
        · simp [CSt.past]; omega
        · refine Wk.heap ?_ (Wk.regs (by simp))
          rw [← hK, AH.put3 _ (by omega), AH.put3 _ (by omega)]
          simp [CSt.recd, encRec, CSt.inn, Nat.add_sub_cancel_left]
      · refine (next_bad hS hi hc he).mono ?_
        rintro _ K3 ⟨rfl, rfl⟩
        have hR : split b = ([], c.nextE) := by rw [← hF]; simp [splitF, hne, he]
        obtain ⟨g, e, hg⟩ : ∃ p g, c.nextE = .at p g := by
          cases h : c.nextE with
          | none => exact absurd h he
          | bare g => unfold CSt.nextE at h; (repeat' split at h) <;> cases h
          | «at» p g => exact ⟨p, g, rfl⟩
        simp [hS.P, hg, encErr]
        refine Leave.le (v' := encSplit (split b)) ?_ (Leave.data keeps (by simp [encSplit, hR, hg]) (by simp))
        simp [encSplit, hR, hg, encErr]
        exact Le.tup rfl fun j x y h1 h2 => by
          rcases j with _ | _ | j <;> simp at h1 h2
          · subst h1 h2; exact Le.csl []
          · subst h1 h2; exact Le.refl _
    · have h0 : c.bound - c.at_ = 0 := by omega
      have hR : split b = (acc, .none) := by rw [← hF]; simp [splitF, h0]
      simp
      refine Leave.frz (id := H.nx + 1) ho (.tup _ [.fsl ((((acc.map encRec).drop 0).take acc.length)), .nili] rfl fun j x y h1 h2 => by
        rcases j with _ | _ | j <;> simp at h1 h2
        · subst h1 h2; exact .sl 0 acc.length (by simp)
        · subst h1 h2; exact .refl _) ?_
      refine Leave.data (put_keeps (AH.free_add H 1) keeps) (by simp [List.take_of_length_le, encRec]) ?_
      simp [encSplit, hR, encErr, List.take_of_length_le]
end Go.Proofs.YtdcopkocdmkiiaaDoor.Am
set_option linter.unusedVariables false
set_option linter.unusedSimpArgs false
namespace Go.Proofs.YtdcopkocdmkiiaaDoor.Am
open Go.RowKit Go.Proofs

def sameR (a b : List RecD) : Prop := a.length = b.length ∧ ∀ (i : Nat) (x y : RecD), a[i]? = some x → b[i]? = some y → x.tag = y.tag ∧ x.body = y.body
open Classical in
theorem sameRecs_spec {X : Ctx} (hS : Sent X) (a b : List RecD) (ha : a.length ≤ 1073741824) (hb : b.length ≤ 1073741824) : ACalc X 20 [.fsl (a.map encRec), .fsl (b.map encRec)] (.bool (decide (sameR a b))) := by
  intro H
  refine acalls' (N := 43) (rs := [.tmp 4]) [] (by rw [hS.P]; exact Tryd.func20) rfl rfl rfl (by decide) (by simp) ?_
  simp [entryR, hS.P]
  refine aCond_mk (fun hne => ?_) (fun heq => ?_)
  · simp
    refine Leave.data (keeps_refl _) (by simp) ⟨?_, rfl⟩
    have : ¬ sameR a b := fun h => by simp at hne; have := h.1; omega
    simp [this]
  · have hlen : a.length = b.length := by simp at heq; omega
    simp
    refine AWp.loop (S := Nat) (fun n => n ≤ a.length ∧ ∀ (i : Nat) (x y : RecD), i < n → a[i]? = some x → b[i]? = some y → x.tag = y.tag ∧ x.body = y.body)
      (fun n => [(0, .fsl (a.map encRec)), (1, .fsl (b.map encRec)), (5, .int .i64 n)]) (fun n => H) (fun n => a.length - n) 0 ⟨Nat.zero_le _, fun i x y h => by omega⟩ ?_ fun n hn => ?_
    · exact Wk.regs (by simp)
    · obtain ⟨hn, hall⟩ := hn
      refine aC_sound (lv := []) _ _ _ _ ?_
      simp [hS.P]
      refine aCond_dec (fun hlt => ?_) (fun hge => ?_)
      · obtain ⟨x, hx⟩ : ∃ x, a[n]? = some x := ⟨a[n], List.getElem?_eq_getElem hlt⟩
        obtain ⟨y, hy⟩ : ∃ y, b[n]? = some y := ⟨b[n], List.getElem?_eq_getElem (by omega)⟩
        simp
        rw [aC_draw (hc := by kernel_rfl)]
        simp [hS.P, hx, hy, encRec, encBytes]
        have no : (x.tag ≠ y.tag ∨ x.body ≠ y.body) → ¬ sameR a b := fun h hs => by have := hs.2 n x y hx hy; rcases h with h | h <;> simp_all
        refine aGuard_mk (fun hg => ?_) (fun hg => ?_)
        · have ht : x.tag = y.tag := by simpa using hg
          simp [hS.P, hx, hy, encRec, encBytes, ht]
          refine aCond_mk (fun hb1 => ?_) (fun hb1 => ?_)
          · have hbd : ¬ x.body = y.body := by simpa using hb1
            simp
            refine Leave.data (keeps_refl _) (by simp) ⟨?_, rfl⟩
            simp [no (.inr hbd)]
          · have hbd : x.body = y.body := by simpa using hb1
            have e1 : IntKind.i64.wrap ((n : Int) + 1) = ((n + 1 : Nat) : Int) := by rw [wrap64 (by omega) (by omega)]; simp
            simp [e1]
            refine ⟨n + 1, ⟨hlt, fun i x' y' hi h1 h2 => ?_⟩, by omega, Wk.regs (by simp [encRec, encBytes])⟩
            by_cases hin : i = n
            · subst hin
              rw [hx] at h1; rw [hy] at h2
              cases h1; cases h2
              exact ⟨ht, hbd⟩
            · exact hall i x' y' (by omega) h1 h2
        · have ht : ¬ x.tag = y.tag := by simpa using hg
          simp [hS.P, hx, hy, encRec, encBytes, ht]
          refine Leave.data (keeps_refl _) (by simp) ⟨?_, rfl⟩
          simp [no (.inl ht)]
      · obtain rfl : n = a.length := by omega
        simp
        refine Leave.data (keeps_refl _) (by simp) ⟨?_, rfl⟩
        have : sameR a b := ⟨hlen, fun i x y h1 h2 => hall i x y (List.getElem?_eq_some_iff.1 h1).1 h1 h2⟩
        simp [this]
end Go.Proofs.YtdcopkocdmkiiaaDoor.Am
set_option linter.unusedVariables false
set_option linter.unusedSimpArgs false
namespace Go.Proofs.YtdcopkocdmkiiaaDoor.Am
open Go.RowKit Go.Proofs

/-- The program's writer and the document's stand alike. -/
def Sim (w : WSt) (r : RSt) : Prop := r.data = w.data ∧ ((w.err = .none ∧ r.code = 0) ∨ ∃ p g, w.err = .at p g ∧ r.code = codeG g ∧ r.place = p ∧ codeG g ≠ 0)
theorem sim_rcd {w : WSt} {r : RSt} (h : Sim w r) (tag : Int) (body : List UInt8) : Sim (w.rcd tag body) (r.rcd tag body) := by
  obtain ⟨hd, ⟨he, hc⟩ | ⟨p, g, he, hc, hp, hg⟩⟩ := h
  · unfold WSt.rcd RSt.rcd
    split
    · refine ⟨by simp [WSt.spoil, he, RSt.put, hc, hd], .inr ⟨w.data.length, 3, by simp [WSt.spoil, he], by simp [RSt.put, hc, codeG], by simp [RSt.put, hc, hd], by simp [codeG]⟩⟩
    · split
      · refine ⟨by simp [WSt.spoil, he, RSt.put, hc, hd], .inr ⟨w.data.length, 5, by simp [WSt.spoil, he], by simp [RSt.put, hc, codeG], by simp [RSt.put, hc, hd], by simp [codeG]⟩⟩
      · rename_i h1 h2
        have n1 : ∀ s : WSt, s.num tag 1 = s.put [byteAt tag 0] := fun s => by
          unfold WSt.num; rw [if_neg (by simp [mostOf]; omega)]; rfl
        have n2 : ∀ s : WSt, s.num body.length 2 = (s.put [byteAt body.length 1]).put [byteAt body.length 0] := fun s => by
          unfold WSt.num; rw [if_neg (by simp [mostOf]; omega)]; rfl
        have b0 : byteAt tag 0 = UInt8.ofNat (tag % 256).toNat := by simp [byteAt]
        have nb : numB (body.length : Int) 2 = [byteAt body.length 1, byteAt body.length 0] := by simp [numB, List.range_succ]
        rw [n1, n2]
        refine ⟨by simp [WSt.put, he, RSt.put, hc, hd, b0, nb], .inl ⟨by simp [WSt.put, he], by simp [RSt.put, hc]⟩⟩
  · have hc0 : r.code ≠ 0 := by rw [hc]; exact hg
    have w1 : ∀ b, w.put b = w := fun b => by simp [WSt.put, he]
    have w2 : ∀ g, w.spoil g = w := fun g => by simp [WSt.spoil, he]
    have w3 : ∀ n k, w.puts n k = w := fun n k => by
      induction k with
      | zero => rfl
      | succ k ih => simp only [WSt.puts, w1]; exact ih
    have w4 : ∀ n k, w.num n k = w := fun n k => by unfold WSt.num; split <;> simp [w2, w3]
    have r1 : ∀ b c, r.put b c = r := fun b c => by simp [RSt.put, hc0]
    have e1 : w.rcd tag body = w := by unfold WSt.rcd; (repeat' split) <;> simp [w1, w2, w4]
    have e2 : r.rcd tag body = r := by unfold RSt.rcd; (repeat' split) <;> simp [r1]
    rw [e1, e2]
    exact ⟨hd, .inr ⟨p, g, he, hc, hp, hg⟩⟩
theorem sim_fold : ∀ (l : List RecD) (w : WSt) (r : RSt), Sim w r → Sim (l.foldl (fun s x => s.rcd x.tag x.body) w) (l.foldl (fun s x => s.rcd x.tag x.body) r)
  | [], _, _, h => h
  | x :: l, w, r, h => sim_fold l _ _ (sim_rcd h x.tag x.body)
theorem rjoin_eq (l : List RecD) : (rjoinSt l).done = .tup [encBytes (joinSt l).out, encPR (joinSt l).err] := by
  have h : Sim (joinSt l) (rjoinSt l) := sim_fold l _ _ ⟨rfl, .inl ⟨rfl, rfl⟩⟩
  obtain ⟨hd, ⟨he, hc⟩ | ⟨p, g, he, hc, hp, hg⟩⟩ := h
  · simp [RSt.done, RSt.out, RSt.pl, WSt.out, hd, he, hc, encPR, PE.code, PE.place]
  · have hc0 : (rjoinSt l).code ≠ 0 := by rw [hc]; exact hg
    simp [RSt.done, RSt.out, RSt.pl, WSt.out, he, encPR, PE.code, PE.place, hc0]
    rw [hc, hp]
end Go.Proofs.YtdcopkocdmkiiaaDoor.Am
set_option linter.unusedVariables false
set_option linter.unusedSimpArgs false
namespace Go.Proofs.YtdcopkocdmkiiaaDoor.Am
open Go.RowKit Go.Proofs

theorem at_pos {X : Ctx} (hS : Sent X) {H : AH} {p : AV} {c : CSt} (hp : CPtr H p c) : ACalls X 76 [p] H fun v H' => v = .int .i64 c.at_ ∧ H' = H := by
  refine acalls' (N := 7) (rs := [.tmp 2]) [] (by rw [hS.P]; exact Tryd.func76) rfl rfl rfl (by decide) (by simp) ?_
  rcases hp with ⟨i, rfl, hi⟩ | rfl
  · simp [entryR, hS.P, hi, CSt.val]
    exact Leave.data (keeps_refl _) (by simp) (by simp)
  · simp [entryR, hS.P, CSt.val]
    exact Leave.data (keeps_refl _) (by simp) (by simp)
theorem u16_spec {X : Ctx} (hS : Sent X) (iw ib : Nat) (s : WSt) (n : Int) (hl : s.data.length + 2 ≤ 1073741824) : WTurn X 71 iw ib [.ptr iw 0 0 0, .int .i64 n] s (s.num n 2) := by
  intro H hW
  refine acalls' (N := 7) (rs := []) [] (by rw [hS.P]; exact Tryd.func71) rfl rfl rfl (by decide) (by simp) ?_
  simp [entryR, hS.P]
  refine (num_spec hS iw ib s n 2 (.inr (.inl rfl)) (by omega)).go hW ?_
  simp
  exact Leave.stay ⟨rfl, rfl⟩
def CSt.endE (c : CSt) : PE := if c.bound - c.at_ = 0 then .none else .at c.at_ 2
theorem end_spec {X : Ctx} (hS : Sent X) {H : AH} {i : Nat} {c : CSt} (hi : H.get i = .row [c.val] 3 0) (hc : c.Ok) : ACalls X 90 [.ptr i 0 0 0] H fun v H' => v = encErr c.endE ∧ H' = H := by
  have hp : CPtr H (.ptr i 0 0 0) c := .inl ⟨i, rfl, hi⟩
  refine acalls' (N := 12) (rs := [.tmp 2]) [] (by rw [hS.P]; exact Tryd.func90) rfl rfl rfl (by decide) (by simp) ?_
  obtain ⟨h1, h2, h3⟩ := id hc
  simp [entryR, hS.P]
  refine (left_spec hS hp hc).mono ?_
  rintro _ H ⟨rfl, rfl⟩
  simp
  refine aCond_dec (fun hlt => ?_) (fun hge => ?_)
  · have h0 : ¬ c.bound - c.at_ = 0 := by omega
    simp
    rw [aC_draw (hc := by kernel_rfl)]
    simp [hS.P, hi, CSt.val, hS.e2]
    refine (at_spec hS _ 2).call ?_
    simp
    exact Leave.data (keeps_refl _) (by simp) (by simp [CSt.endE, h0])
  · have h0 : c.bound - c.at_ = 0 := by omega
    simp
    exact Leave.data (keeps_refl _) (by simp) (by simp [CSt.endE, h0, encErr])

/-- What stands in the way of the next record, which is to have that tag. -/
def CSt.recE (c : CSt) (tag : Int) : PE :=
  if c.bound - c.at_ < 3 then .at c.at_ 1 else if c.num 0 1 ≠ tag ∨ tag = 0 then .at c.at_ 3 else if c.bound - c.at_ - 3 < c.len then .at (c.at_ + 1) 5 else .none
theorem rec_bad {X : Ctx} (hS : Sent X) {H : AH} {i : Nat} {c : CSt} (hi : H.get i = .row [c.val] 3 0) (hc : c.Ok) (tag : Int) (he : c.recE tag ≠ .none) :
    ACalls X 75 [.ptr i 0 0 0, .int .i64 tag] H fun v H' => v = .tup [.nilp, encErr (c.recE tag)] ∧ H' = H := by
  refine acalls' (N := 36) (rs := [.tmp 4, .tmp 5]) [] (by rw [hS.P]; exact Tryd.func75) rfl rfl rfl (by decide) (by simp) ?_
  obtain ⟨h1, h2, h3⟩ := id hc
  simp [entryR, hS.P]
  refine (head_spec hS hi hc).mono ?_
  rintro _ H ⟨rfl, rfl⟩
  by_cases hs : c.bound - c.at_ < 3
  · simp [CSt.head, hs, encErr, hS.P]
    exact Leave.data (keeps_refl _) (by simp) (by simp [CSt.recE, hs, encErr])
  · simp [CSt.head, hs, encErr, hS.P]
    by_cases ht : c.num 0 1 = tag
    · by_cases h0 : tag = 0
      · simp [ht, h0]
        rw [aC_draw (hc := by kernel_rfl)]
        simp [hS.P, hi, CSt.val, hS.e3]
        refine (at_spec hS _ 3).call ?_
        simp
        exact Leave.data (keeps_refl _) (by simp) (by simp [CSt.recE, hs, h0])
      · have hn : c.bound - c.at_ - 3 < c.len := by
          by_cases hn : c.bound - c.at_ - 3 < c.len
          · exact hn
          · exact absurd (by simp [CSt.recE, hs, ht, h0, hn]) he
        simp [ht, h0, len_eq]
        refine (enter_bad hS hi hc c.len (len_lt c) (by omega) hn).mono ?_
        rintro _ H ⟨rfl, rfl⟩
        simp
        exact Leave.data (keeps_refl _) (by simp) (by simp [CSt.recE, hs, h0, hn, ht])
    · simp [ht]
      rw [aC_draw (hc := by kernel_rfl)]
      simp [hS.P, hi, CSt.val, hS.e3]
      refine (at_spec hS _ 3).call ?_
      simp
      exact Leave.data (keeps_refl _) (by simp) (by simp [CSt.recE, hs, ht])
theorem rec_ok {X : Ctx} (hS : Sent X) {H : AH} {i : Nat} {c : CSt} (hi : H.get i = .row [c.val] 3 0) (hc : c.Ok) (tag : Int) (he : c.recE tag = .none) :
    ACalls X 75 [.ptr i 0 0 0, .int .i64 tag] H fun v H' => v = .tup [.eptr [(c.inn c.len).val] 0 0, .nili] ∧ H' = H.put i (.row [(c.past c.len).val] 3 0) := by
  refine acalls' (N := 36) (rs := [.tmp 4, .tmp 5]) [] (by rw [hS.P]; exact Tryd.func75) rfl rfl rfl (by decide) (by simp) ?_
  obtain ⟨h1, h2, h3⟩ := id hc
  have hs : ¬ c.bound - c.at_ < 3 := by intro hs; simp [CSt.recE, hs] at he
  have ht : c.num 0 1 = tag := by
    by_cases ht : c.num 0 1 = tag
    · exact ht
    · simp [CSt.recE, hs, ht] at he
  have h0 : ¬ tag = 0 := by intro h0; simp [CSt.recE, hs, h0] at he
  have hn : ¬ c.bound - c.at_ - 3 < c.len := by intro hn; simp [CSt.recE, hs, h0, hn, ht] at he
  simp [entryR, hS.P]
  refine (head_spec hS hi hc).mono ?_
  rintro _ H ⟨rfl, rfl⟩
  simp [CSt.head, hs, encErr, hS.P, h0, len_eq, ht]
  refine (enter_ok hS hi hc c.len (by omega) (by omega)).mono ?_
  rintro _ _ ⟨rfl, rfl⟩
  simp [hS.P]
  exact Leave.stay ⟨rfl, rfl⟩
end Go.Proofs.YtdcopkocdmkiiaaDoor.Am
set_option linter.unusedVariables false
set_option linter.unusedSimpArgs false
namespace Go.Proofs.YtdcopkocdmkiiaaDoor.Am
open Go.RowKit Go.Proofs

def encInt (n : Int) : AV := .int .i64 n
def expectF : List Int → CSt → List (List UInt8) → List (List UInt8) × PE
  | [], c, acc => if c.endE = .none then (acc, .none) else ([], c.endE)
  | t :: ts, c, acc => if c.recE t = .none then expectF ts (c.past c.len) (acc ++ [(c.b.drop (c.at_ + 3)).take c.len]) else ([], c.recE t)
def expect (b : List UInt8) (tags : List Int) : List (List UInt8) × PE := expectF tags ⟨b, 0, b.length⟩ []
def encExpect (x : List (List UInt8) × PE) : AV := .tup [.fsl (x.1.map encBytes), encErr x.2]
theorem rec_ok_at {c : CSt} {t : Int} (hc : c.Ok) (he : c.recE t = .none) : 3 ≤ c.bound - c.at_ ∧ c.len ≤ c.bound - c.at_ - 3 := by
  unfold CSt.recE at he
  split at he
  · cases he
  · split at he
    · cases he
    · split at he
      · cases he
      · omega
theorem recE_at {c : CSt} {t : Int} (he : c.recE t ≠ .none) : ∃ p g, c.recE t = .at p g := by
  cases h : c.recE t with
  | none => exact absurd h he
  | bare g => unfold CSt.recE at h; (repeat' split at h) <;> cases h
  | «at» p g => exact ⟨p, g, rfl⟩
theorem expect_spec {X : Ctx} (hS : Sent X) (b : List UInt8) (hb : b.length ≤ 1073741824) (tags : List Int) (ht : tags.length ≤ 1073741824) : ACalc X 22 [.fsl (b.map encB), .fsl (tags.map encInt)] (encExpect (expect b tags)) := by
  intro H
  refine acalls' (N := 42) (rs := [.tmp 4, .tmp 5]) [34] (by rw [hS.P]; exact Tryd.func22) rfl rfl rfl (by decide) (by simp) ?_
  simp [entryR, hS.P]
  refine (open_spec hS b hb H).mono ?_
  rintro _ _ ⟨rfl, rfl⟩
  simp [hS.P]
  refine AWp.loop (S := Nat × CSt × List (List UInt8)) (fun p => p.1 ≤ tags.length ∧ expectF (tags.drop p.1) p.2.1 p.2.2 = expect b tags ∧ p.2.1.Ok ∧ p.2.2.length ≤ p.1)
    (fun p => [(6, .ptr H.nx 0 0 0), (7, .sl (H.nx + 1) p.2.2.length 0 p.2.2.length), (15, .fsl (tags.map encInt)), (16, .int .i64 tags.length), (17, .int .i64 p.1)]) (fun p => (H.put H.nx (.row [p.2.1.val] 3 0)).put (H.nx + 1) (.row (p.2.2.map encBytes) 1 p.2.2.length)) (fun p => tags.length - p.1)
    (0, ⟨b, 0, b.length⟩, []) ⟨Nat.zero_le _, rfl, ⟨by simp, by simp, hb⟩, by simp⟩ ?_ fun p hp => ?_
  · exact Wk.mat (id := H.nx + 1) 1 (by simp [AH.free_add H 1]) (by simp [Mat])
  · obtain ⟨n, c, acc⟩ := p
    obtain ⟨hn, hF, hc, hacc⟩ := hp
    simp only at hF hc hn hacc
    obtain ⟨h1, h2, h3⟩ := id hc
    generalize hK : (H.put H.nx (.row [c.val] 3 0)).put (H.nx + 1) (.row (acc.map encBytes) 1 acc.length) = K
    have hi : K.get H.nx = .row [c.val] 3 0 := by rw [← hK]; simp
    have ho : K.get (H.nx + 1) = .row (acc.map encBytes) 1 acc.length := by rw [← hK]; simp
    have keeps : ∀ i, H.get i ≠ .free → K.get i = H.get i := by rw [← hK]; exact put_keeps (AH.free_add H 1) (put_keeps (by simp) (keeps_refl H))
    refine aC_sound (lv := [34]) _ _ _ _ ?_
    simp
    refine aCond_dec (fun hlt => ?_) (fun hge => ?_)
    · obtain ⟨t, htg⟩ : ∃ t, tags[n]? = some t := ⟨tags[n], List.getElem?_eq_getElem hlt⟩
      have hdrop : tags.drop n = t :: tags.drop (n + 1) := by
        rw [List.drop_eq_getElem_cons hlt]
        obtain ⟨_, h⟩ := List.getElem?_eq_some_iff.1 htg
        rw [h]
      rw [hdrop] at hF
      simp [hS.P, htg, encInt]
      by_cases he : c.recE t = .none
      · refine (rec_ok hS hi hc t he).mono ?_
        rintro _ K3 ⟨rfl, rfl⟩
        obtain ⟨n1, n2⟩ := rec_ok_at hc he
        simp [hS.P]
        refine (body_spec hS (c := c.inn c.len) (.inr rfl) ⟨by simp [CSt.inn], by simp [CSt.inn]; omega, h3⟩).mono ?_
        rintro _ K4 ⟨rfl, rfl⟩
        have e1 : IntKind.i64.wrap ((n : Int) + 1) = ((n + 1 : Nat) : Int) := by rw [wrap64 (by omega) (by omega)]; simp
        simp [hS.P, ho, e1]
        refine aIf_mk (by omega) ?_
        simp [e1]
        refine ⟨n + 1, c.past c.len, acc ++ [(c.b.drop (c.at_ + 3)).take c.len], ⟨hlt, ?_, ⟨?_, h2, h3⟩, ?_⟩, by omega, ?_⟩
        · rw [← hF]; simp [expectF, he]
        · simp [CSt.past]; omega
        · simp; omega
        · refine Wk.heap ?_ (Wk.regs (by simp [encInt]))
          rw [← hK, AH.put3 _ (by omega), AH.put3 _ (by omega)]
          simp [CSt.inn, Nat.add_sub_cancel_left]
      · refine (rec_bad hS hi hc t he).mono ?_
        rintro _ K3 ⟨rfl, rfl⟩
        have hR : expect b tags = ([], c.recE t) := by rw [← hF]; simp [expectF, he]
        obtain ⟨p, g, hg⟩ := recE_at he
        simp [hS.P, hg, encErr]
        refine Leave.le (v' := encExpect (expect b tags)) ?_ (Leave.data keeps (by simp [encExpect, hR, hg]) (by simp))
        simp [encExpect, hR, hg, encErr]
        exact Le.tup rfl fun j x y h1 h2 => by
          rcases j with _ | _ | j <;> simp at h1 h2
          · subst h1 h2; exact Le.csl []
          · subst h1 h2; exact Le.refl _
    · obtain rfl : n = tags.length := by omega
      rw [List.drop_length] at hF
      simp
      refine (end_spec hS hi hc).mono ?_
      rintro _ K3 ⟨rfl, rfl⟩
      by_cases he : c.bound - c.at_ = 0
      · have hR : expect b tags = (acc, .none) := by rw [← hF]; simp [expectF, CSt.endE, he]
        simp [CSt.endE, he, encErr, hS.P]
        refine Leave.frz (id := H.nx + 1) ho (.tup _ [.fsl ((((acc.map encBytes).drop 0).take acc.length)), .nili] rfl fun j x y h1 h2 => by
          rcases j with _ | _ | j <;> simp at h1 h2
          · subst h1 h2; exact .sl 0 acc.length (by simp)
          · subst h1 h2; exact .refl _) ?_
        refine Leave.data (put_keeps (AH.free_add H 1) keeps) (by simp [List.take_of_length_le]) ?_
        simp [encExpect, hR, encErr, List.take_of_length_le]
      · have hR : expect b tags = ([], c.endE) := by rw [← hF]; simp [expectF, CSt.endE, he]
        simp [CSt.endE, he, encErr, hS.P]
        refine Leave.le (v' := encExpect (expect b tags)) ?_ (Leave.data keeps (by simp [encExpect, hR]) (by simp))
        simp [encExpect, hR, CSt.endE, he, encErr]
        exact Le.tup rfl fun j x y h1 h2 => by
          rcases j with _ | _ | j <;> simp at h1 h2
          · subst h1 h2; exact Le.csl []
          · subst h1 h2; exact Le.refl _
end Go.Proofs.YtdcopkocdmkiiaaDoor.Am
set_option linter.unusedVariables false
set_option linter.unusedSimpArgs false
namespace Go.Proofs.YtdcopkocdmkiiaaDoor.Am
open Go.RowKit Go.Proofs

theorem rleft_spec {X : Ctx} (hS : Sent X) {H : AH} {p : AV} {c : CSt} (hp : CPtr H p c) (hc : c.Ok) : ACalls X 83 [p] H fun v H' => v = .int .i64 ((c.bound : Int) - c.at_) ∧ H' = H := by
  refine acalls' (N := 12) (rs := [.tmp 2]) [] (by rw [hS.P]; exact Tryd.func83) rfl rfl rfl (by decide) (by simp) ?_
  obtain ⟨h1, h2, h3⟩ := hc
  have e1 : IntKind.i64.wrap ((c.bound : Int) - c.at_) = (c.bound : Int) - c.at_ := wrap64 (by omega) (by omega)
  rcases hp with ⟨i, rfl, hi⟩ | rfl
  · simp [entryR, hS.P]
    rw [aC_draw (hc := by kernel_rfl)]
    simp [hS.P, hi, CSt.val, e1]
    refine aIf_mk (chkH_reads (by simp)) ?_
    simp
    exact Leave.data (keeps_refl _) (by simp) (by simp)
  · simp [entryR, hS.P]
    rw [aC_draw (hc := by kernel_rfl)]
    simp [hS.P, CSt.val, e1]
    exact Leave.data (keeps_refl _) (by simp) (by simp)
theorem ropen_spec {X : Ctx} (hS : Sent X) (b : List UInt8) (hb : b.length ≤ 1073741824) (H : AH) : ACalls X 82 [.fsl (b.map encB)] H fun v H' => v = .ptr H.nx 0 0 0 ∧ H' = H.put H.nx (.row [CSt.val ⟨b, 0, b.length⟩] 3 0) := by
  refine acalls' (N := 10) (rs := [.tmp 2]) [] (by rw [hS.P]; exact Tryd.func82) rfl rfl rfl (by decide) (by simp) ?_
  simp [entryR, hS.P, show b.length ≤ 140737488355328 by omega]
  refine Leave.stay ⟨rfl, ?_⟩
  simp [CSt.val, encBytes]
theorem rend_spec {X : Ctx} (hS : Sent X) {H : AH} {i : Nat} {c : CSt} (hi : H.get i = .row [c.val] 3 0) (hc : c.Ok) : ACalls X 89 [.ptr i 0 0 0] H fun v H' => v = encPR c.endE ∧ H' = H := by
  have hne : i ≠ H.nx := by rintro rfl; simp at hi
  refine acalls' (N := 12) (rs := [.cell 2 29]) [] (by rw [hS.P]; exact Tryd.func89) rfl rfl rfl (by decide) (by simp) ?_
  obtain ⟨h1, h2, h3⟩ := id hc
  simp [entryR, hS.P]
  refine (rleft_spec hS (c := c) (.inl ⟨i, rfl, by rw [AH.put_ne _ _ hne]; exact hi⟩) hc).mono ?_
  rintro _ _ ⟨rfl, rfl⟩
  simp
  refine aCond_dec (fun hlt => ?_) (fun hge => ?_)
  · have h0 : ¬ c.bound - c.at_ = 0 := by omega
    simp [hS.P, hi, hne, CSt.val]
    exact Leave.data (put_keeps (by simp) (keeps_refl _)) (by simp) (by simp [CSt.endE, h0, encPR, encR, PE.code, PE.place, codeG])
  · have h0 : c.bound - c.at_ = 0 := by omega
    simp
    refine (none_spec hS).go ?_
    simp [hS.P, encR]
    exact Leave.data (put_keeps (by simp) (keeps_refl _)) (by simp) (by simp [CSt.endE, h0, encPR, encR, PE.code, PE.place])
end Go.Proofs.YtdcopkocdmkiiaaDoor.Am
set_option linter.unusedVariables false
set_option linter.unusedSimpArgs false
namespace Go.Proofs.YtdcopkocdmkiiaaDoor.Am
open Go.RowKit Go.Proofs

theorem rvalue_spec {X : Ctx} (hS : Sent X) {H : AH} {i : Nat} {c : CSt} (hi : H.get i = .row [c.val] 3 0) (hc : c.Ok) (at_ w : Nat) (hw : w ≤ 4) (hle : at_ + w ≤ c.b.length) :
    ACalls X 199 [.ptr i 0 0 0, .int .i64 at_, .int .i64 w] H fun v H' => v = .int .i64 (numOf ((c.b.drop at_).take w)) ∧ H' = H := by
  refine acalls' (N := 29) (rs := [.tmp 6]) [] (by rw [hS.P]; exact Tryd.func199) rfl rfl rfl (by decide) (by simp) ?_
  obtain ⟨h1, h2, h3⟩ := hc
  have e1 : IntKind.i64.wrap ((at_ : Int) + w) = (at_ : Int) + w := wrap64 (by omega) (by omega)
  generalize hxs : (c.b.drop at_).take w = xs
  have hlen : xs.length = w := by rw [← hxs]; simp; omega
  simp [entryR, hS.P]
  refine AWp.loop (S := Nat) (fun n => n ≤ w) (fun n => [(0, .ptr i 0 0 0), (1, .int .i64 at_), (2, .int .i64 w), (7, .int .i64 (numOf (xs.take n))), (8, .int .i64 (at_ + n : Nat))]) (fun n => H) (fun n => w - n) 0 (Nat.zero_le _) ?_ fun n hn => ?_
  · exact Wk.regs (by simp [numOf])
  · refine aC_sound (lv := []) _ _ _ _ ?_
    simp [e1]
    refine aCond_dec (fun hlt => ?_) (fun hge => ?_)
    · have hnw : n < w := by omega
      obtain ⟨b, hb⟩ : ∃ b, xs[n]? = some b := ⟨xs[n], List.getElem?_eq_getElem (by omega)⟩
      have hb' : c.b[at_ + n]? = some b := by
        rw [← hxs, List.getElem?_take_of_lt hnw, List.getElem?_drop] at hb; exact hb
      have hbn := numOf_bound (xs.take n)
      have hb3 : numOf (xs.take n) < 4294967296 := by
        have h4 : (xs.take n).length = n := by simp; omega
        have h5 : (256 : Int) ^ n ≤ 16777216 := by rcases (by omega : n = 0 ∨ n = 1 ∨ n = 2 ∨ n = 3) with h | h | h | h <;> rw [h] <;> decide
        rw [h4] at hbn
        omega
      have hb256 := b.toNat_lt
      have e3 : IntKind.i64.wrap ((at_ : Int) + n + 1) = (at_ : Int) + n + 1 := wrap64 (by omega) (by omega)
      have e4 : IntKind.i64.wrap (b.toNat : Int) = b.toNat := wrap64 (by omega) (by omega)
      have e5 : IntKind.i64.wrap (numOf (xs.take n) * 256) = numOf (xs.take n) * 256 := wrap64 (by omega) (by omega)
      have e7 : IntKind.i64.wrap (numOf (xs.take n) * 256 + b.toNat) = numOf (xs.take n) * 256 + b.toNat := wrap64 (by omega) (by omega)
      have e6 : numOf (xs.take (n + 1)) = numOf (xs.take n) * 256 + b.toNat := by rw [List.take_add_one, hb]; exact numOf_snoc _ _
      have p0 : (0 : Int) ≤ (at_ : Int) + n := by omega
      have p1 : ((at_ : Int) + n).toNat = at_ + n := by omega
      simp [hS.P, hi, CSt.val, encBytes, hb', encB, e3, e4, e5, e7, p0, p1]
      exact ⟨n + 1, by omega, by omega, Wk.regs (by simp [e6, Int.add_assoc])⟩
    · obtain rfl : n = w := by omega
      simp
      refine Leave.data (keeps_refl _) (by simp) ?_
      simp [List.take_of_length_le, hlen]
end Go.Proofs.YtdcopkocdmkiiaaDoor.Am
set_option linter.unusedVariables false
set_option linter.unusedSimpArgs false
namespace Go.Proofs.YtdcopkocdmkiiaaDoor.Am
open Go.RowKit Go.Proofs

theorem tag_at {c : CSt} (hc : c.Ok) (hs : ¬ c.bound - c.at_ < 3) : ∃ t, c.b[c.at_]? = some t ∧ c.num 0 1 = (t.toNat : Int) := by
  have h := hc.le2
  have hlt : c.at_ < c.b.length := by omega
  refine ⟨c.b[c.at_], List.getElem?_eq_getElem hlt, ?_⟩
  have : (c.b.drop c.at_).take 1 = [c.b[c.at_]] := by
    rw [List.drop_eq_getElem_cons hlt]; rfl
  simp [CSt.num, this, numOf]
/-- What the document's cursor finds in the way: of any tag, or of one. -/
def CSt.rE (c : CSt) (want : Int) (any : Bool) : PE := if any then c.nextE else c.recE want
theorem rrec_bad {X : Ctx} (hS : Sent X) {H : AH} {i : Nat} {c : CSt} (hi : H.get i = .row [c.val] 3 0) (hc : c.Ok) (want : Int) (any : Bool) (he : c.rE want any ≠ .none) :
    ACalls X 145 [.ptr i 0 0 0, .int .i64 want, .bool any] H fun v H' => v = .tup [.int .i64 0, .nilp, encPR (c.rE want any)] ∧ H' = H := by
  have hne : i ≠ H.nx := by rintro rfl; simp at hi
  refine acalls' (N := 102) (rs := [.tmp 6, .tmp 7, .cell 8 29]) [] (by rw [hS.P]; exact Tryd.func145) rfl rfl rfl (by decide) (by simp) ?_
  obtain ⟨h1, h2, h3⟩ := id hc
  simp [entryR, hS.P]
  generalize hK : H.put H.nx (.row [.agg [.int .i64 0, .int .i64 0]] 2 0) = K
  have hKi : K.get i = .row [c.val] 3 0 := by rw [← hK, AH.put_ne _ _ hne]; exact hi
  have hKn : K.get H.nx = .row [.agg [.int .i64 0, .int .i64 0]] 2 0 := by rw [← hK]; simp
  have keeps : ∀ k, H.get k ≠ .free → K.get k = H.get k := by rw [← hK]; exact put_keeps (by simp) (keeps_refl _)
  refine (rleft_spec hS (c := c) (.inl ⟨i, rfl, hKi⟩) hc).mono ?_
  rintro _ K2 ⟨rfl, rfl⟩
  simp
  refine aCond_dec (fun hlt => ?_) (fun hge => ?_)
  · have hs : c.bound - c.at_ < 3 := by omega
    simp
    rw [aC_draw (hc := by kernel_rfl)]
    simp [hS.P, hKi, hKn, CSt.val, hne, hne.symm]
    refine aIf_mk (chkH_two (by kernel_rfl)) ?_
    simp [hS.P]
    have hE : c.rE want any = .at c.at_ 1 := by cases any <;> simp [CSt.rE, CSt.nextE, CSt.recE, hs]
    exact Leave.data (put_keeps (by simp) keeps) (by simp) (by simp [hE, encPR, encR, PE.code, PE.place, codeG])
  · have hs : ¬ c.bound - c.at_ < 3 := by omega
    obtain ⟨t, htb, htn⟩ := tag_at hc hs
    have ht256 := t.toNat_lt
    have e0 : IntKind.i64.wrap (t.toNat : Int) = t.toNat := wrap64 (by omega) (by omega)
    simp
    rw [aC_draw (hc := by kernel_rfl)]
    simp [hS.P, hKi, hKn, CSt.val, hne, hne.symm, encBytes, htb, encB, e0]
    refine aIf_mk (chkH_reads (by simp)) ?_
    have e1 : IntKind.i64.wrap ((c.at_ : Int) + 1) = ((c.at_ + 1 : Nat) : Int) := by rw [wrap64 (by omega) (by omega)]; simp
    have e2 : IntKind.i64.wrap ((c.bound : Int) - c.at_ - 3) = (c.bound : Int) - c.at_ - 3 := wrap64 (by omega) (by omega)
    have hlen : numOf ((c.b.drop (c.at_ + 1)).take 2) = c.len := len_eq c
    have hv := rvalue_spec hS hKi hc (c.at_ + 1) 2 (by omega) (by omega)
    rw [hlen] at hv
    have hv' : ACalls X 199 [.ptr i 0 0 0, .int .i64 ((c.at_ : Int) + 1), .int .i64 2] K2 fun v H' => v = .int .i64 c.len ∧ H' = K2 := by simpa using hv
    have hl := rleft_spec hS (c := c) (.inl ⟨i, rfl, hKi⟩) hc
    cases any with
    | true =>
      by_cases h0 : t.toNat = 0
      · have hE : c.rE want true = .at c.at_ 3 := by simp [CSt.rE, CSt.nextE, hs, htn, h0]
        simp [h0]
        rw [aC_draw (hc := by kernel_rfl)]
        simp [hS.P, hKi, hKn, CSt.val, hne, hne.symm]
        refine aIf_mk (chkH_two (by kernel_rfl)) ?_
        simp [hS.P]
        exact Leave.data (put_keeps (by simp) keeps) (by simp) (by simp [hE, encPR, encR, PE.code, PE.place, codeG])
      · have hn : c.bound - c.at_ - 3 < c.len := by
          by_cases hn : c.bound - c.at_ - 3 < c.len
          · exact hn
          · exact absurd (by simp [CSt.rE, CSt.nextE, hs, htn, h0, hn]) he
        have hE : c.rE want true = .at (c.at_ + 1) 5 := by simp [CSt.rE, CSt.nextE, hs, htn, h0, hn]
        simp [h0, hS.P, hKi, CSt.val, e1]
        refine hv'.mono ?_
        rintro _ K3 ⟨rfl, rfl⟩
        simp
        refine hl.mono ?_
        rintro _ K4 ⟨rfl, rfl⟩
        simp [e2]
        refine aCond_dec (fun hlt => ?_) (fun hge => by omega)
        simp
        rw [aC_draw (hc := by kernel_rfl)]
        simp [hS.P, hKi, hKn, CSt.val, hne, hne.symm, e1]
        refine aIf_mk (chkH_two (by kernel_rfl)) ?_
        simp [hS.P]
        exact Leave.data (put_keeps (by simp) keeps) (by simp) (by simp [hE, encPR, encR, PE.code, PE.place, codeG])
    | false =>
      by_cases hw : (t.toNat : Int) = want
      · subst hw
        by_cases h0 : t.toNat = 0
        · have hE : c.rE (t.toNat : Int) false = .at c.at_ 3 := by simp [CSt.rE, CSt.recE, hs, htn, h0]
          simp [h0]
          rw [aC_draw (hc := by kernel_rfl)]
          simp [hS.P, hKi, hKn, CSt.val, hne, hne.symm]
          refine aIf_mk (chkH_two (by kernel_rfl)) ?_
          simp [hS.P]
          exact Leave.data (put_keeps (by simp) keeps) (by simp) (by simp [hE, encPR, encR, PE.code, PE.place, codeG])
        · have hn : c.bound - c.at_ - 3 < c.len := by
            by_cases hn : c.bound - c.at_ - 3 < c.len
            · exact hn
            · exact absurd (by simp [CSt.rE, CSt.recE, hs, htn, h0, hn]) he
          have hE : c.rE (t.toNat : Int) false = .at (c.at_ + 1) 5 := by simp [CSt.rE, CSt.recE, hs, htn, h0, hn]
          simp [h0, hS.P, hKi, CSt.val, e1]
          refine hv'.mono ?_
          rintro _ K3 ⟨rfl, rfl⟩
          simp
          refine hl.mono ?_
          rintro _ K4 ⟨rfl, rfl⟩
          simp [e2]
          refine aCond_dec (fun hlt => ?_) (fun hge => by omega)
          simp
          rw [aC_draw (hc := by kernel_rfl)]
          simp [hS.P, hKi, hKn, CSt.val, hne, hne.symm, e1]
          refine aIf_mk (chkH_two (by kernel_rfl)) ?_
          simp [hS.P]
          exact Leave.data (put_keeps (by simp) keeps) (by simp) (by simp [hE, encPR, encR, PE.code, PE.place, codeG])
      · have hE : c.rE want false = .at c.at_ 3 := by simp [CSt.rE, CSt.recE, hs, htn, hw]
        simp [hw]
        rw [aC_draw (hc := by kernel_rfl)]
        simp [hS.P, hKi, hKn, CSt.val, hne, hne.symm]
        refine aIf_mk (chkH_two (by kernel_rfl)) ?_
        simp [hS.P]
        exact Leave.data (put_keeps (by simp) keeps) (by simp) (by simp [hE, encPR, encR, PE.code, PE.place, codeG])
end Go.Proofs.YtdcopkocdmkiiaaDoor.Am
set_option linter.unusedVariables false
set_option linter.unusedSimpArgs false
namespace Go.Proofs.YtdcopkocdmkiiaaDoor.Am
open Go.RowKit Go.Proofs

theorem rrec_ok {X : Ctx} (hS : Sent X) {H : AH} {i : Nat} {c : CSt} (hi : H.get i = .row [c.val] 3 0) (hc : c.Ok) (want : Int) (any : Bool) (he : c.rE want any = .none) :
    ACalls X 145 [.ptr i 0 0 0, .int .i64 want, .bool any] H fun v H' => v = .tup [.int .i64 (c.num 0 1), .eptr [(c.inn c.len).val] 0 0, encPR .none] ∧ H' = H.put i (.row [(c.past c.len).val] 3 0) := by
  have hne : i ≠ H.nx := by rintro rfl; simp at hi
  refine acalls' (N := 102) (rs := [.tmp 6, .tmp 7, .cell 8 29]) [] (by rw [hS.P]; exact Tryd.func145) rfl rfl rfl (by decide) (by simp) ?_
  obtain ⟨h1, h2, h3⟩ := id hc
  have hs : ¬ c.bound - c.at_ < 3 := by
    intro hs; cases any <;> simp [CSt.rE, CSt.nextE, CSt.recE, hs] at he
  obtain ⟨t, htb, htn⟩ := tag_at hc hs
  have hn : c.len ≤ c.bound - c.at_ - 3 := by
    cases any with
    | true => exact (next_ok_at hc he).2
    | false => exact (rec_ok_at hc he).2
  have h0 : ¬ t.toNat = 0 := by
    intro h0
    cases any with
    | true => simp [CSt.rE, CSt.nextE, hs, htn, h0] at he
    | false =>
      by_cases hw : (0 : Int) = want
      · simp [CSt.rE, CSt.recE, hs, htn, h0, ← hw] at he
      · simp [CSt.rE, CSt.recE, hs, htn, h0, hw] at he
  have hw : any = false → (t.toNat : Int) = want := by
    rintro rfl
    by_cases hw : (t.toNat : Int) = want
    · exact hw
    · simp [CSt.rE, CSt.recE, hs, htn, hw] at he
  have ht256 := t.toNat_lt
  have e0 : IntKind.i64.wrap (t.toNat : Int) = t.toNat := wrap64 (by omega) (by omega)
  have e1 : IntKind.i64.wrap ((c.at_ : Int) + 1) = ((c.at_ + 1 : Nat) : Int) := by rw [wrap64 (by omega) (by omega)]; simp
  have e2 : IntKind.i64.wrap ((c.bound : Int) - c.at_ - 3) = (c.bound : Int) - c.at_ - 3 := wrap64 (by omega) (by omega)
  have e3 : IntKind.i64.wrap ((c.at_ : Int) + 3) = (c.at_ : Int) + 3 := wrap64 (by omega) (by omega)
  have e4 : IntKind.i64.wrap ((c.at_ : Int) + 3 + c.len) = (c.at_ : Int) + 3 + c.len := wrap64 (by omega) (by omega)
  have e5 : IntKind.i64.wrap (3 + (c.len : Int)) = 3 + (c.len : Int) := wrap64 (by omega) (by omega)
  have e6 : IntKind.i64.wrap ((c.at_ : Int) + (3 + c.len)) = (c.at_ : Int) + 3 + c.len := by rw [wrap64 (by omega) (by omega)]; omega
  simp [entryR, hS.P]
  generalize hK : H.put H.nx (.row [.agg [.int .i64 0, .int .i64 0]] 2 0) = K
  have hKi : K.get i = .row [c.val] 3 0 := by rw [← hK, AH.put_ne _ _ hne]; exact hi
  have hKn : K.get H.nx = .row [.agg [.int .i64 0, .int .i64 0]] 2 0 := by rw [← hK]; simp
  have keeps : ∀ k, H.get k ≠ .free → K.get k = H.get k := by rw [← hK]; exact put_keeps (by simp) (keeps_refl _)
  have hnk : i ≠ K.nx := by rintro rfl; simp at hKi
  have hnn : H.nx ≠ K.nx := by intro h; rw [h] at hKn; simp at hKn
  have hfree : H.get K.nx = .free := H.wf _ (by rw [← hK]; simp)
  have hlen : numOf ((c.b.drop (c.at_ + 1)).take 2) = c.len := len_eq c
  have hv := rvalue_spec hS hKi hc (c.at_ + 1) 2 (by omega) (by omega)
  rw [hlen] at hv
  have hv' : ACalls X 199 [.ptr i 0 0 0, .int .i64 ((c.at_ : Int) + 1), .int .i64 2] K fun v H' => v = .int .i64 c.len ∧ H' = K := by simpa using hv
  have hl := rleft_spec hS (c := c) (.inl ⟨i, rfl, hKi⟩) hc
  refine hl.mono ?_
  rintro _ K ⟨rfl, rfl⟩
  simp
  refine aCond_dec (fun hlt => by omega) (fun hge => ?_)
  simp
  rw [aC_draw (hc := by kernel_rfl)]
  simp [hS.P, hKi, hKn, CSt.val, hne, hne.symm, encBytes, htb, encB, e0]
  refine aIf_mk (chkH_reads (by simp)) ?_
  have go : True := trivial
  cases any with
  | true =>
    simp [h0, hS.P, hKi, CSt.val, e1]
    refine hv'.mono ?_
    rintro _ K ⟨rfl, rfl⟩
    simp
    refine hl.mono ?_
    rintro _ K ⟨rfl, rfl⟩
    simp [e2]
    refine aCond_dec (fun hlt => by omega) (fun hge => ?_)
    simp
    rw [aC_draw (hc := by kernel_rfl)]
    simp [hS.P, hKi, hKn, CSt.val, hne, hne.symm, e3, e4, e5, e6]
    refine aIf_mk (by simp [chkH, hnk, hnk.symm]) ?_
    simp [hS.P, hKi, hKn, CSt.val, hne, hne.symm, hnk, hnk.symm, hnn, hnn.symm, e3, e4, e5, e6]
    refine (none_spec hS).go ?_
    simp [hS.P, hKi, hKn, CSt.val, hne, hne.symm, hnk, hnk.symm, hnn, hnn.symm, encR]
    refine Leave.frz (id := K.nx) (zs := [(c.inn c.len).val]) (sz := 3) (ver := 0) (by simp [AH.get_put, hnk, hnk.symm, hnn, hnn.symm, CSt.val, CSt.inn]) (.tup _ [.int .i64 t.toNat, .eptr [(c.inn c.len).val] 0 0, .agg [.int .i64 0, .int .i64 (-1)]] rfl fun j x y h1 h2 => by
      rcases j with _ | _ | _ | j <;> simp at h1 h2
      · subst h1 h2; exact .refl _
      · subst h1 h2; exact .ptr 0 0
      · subst h1 h2; exact .refl _) ?_
    refine Leave.keep (H'' := H.put i (.row [(c.past c.len).val] 3 0)) (keep_one hi (by simp) ?_ ?_) ?_ ⟨?_, ?_⟩
    · intro x hx d hd
      simp only [List.mem_singleton] at hx
      subst hx
      simp [CSt.val] at hd
      rcases hd with rfl | rfl | rfl
      · exact (encBytes_data _).mono fun _ h => h.elim
      · exact .int _ _
      · exact .int _ _
    · intro k hk
      have h4 : k ≠ H.nx := by rintro rfl; simp at hk
      have h5 : k ≠ K.nx := by rintro rfl; exact hk hfree
      simp [AH.get_put, h4, h5, CSt.val, CSt.past, keeps k hk]
    · exact ((show AV.Data (.tup [.int .i64 t.toNat, .eptr [(c.inn c.len).val] 0 0, .agg [.int .i64 0, .int .i64 (-1)]]) by simp [CSt.val]).mono fun _ h => h.elim)
    · simp [htn, encPR, encR, PE.code, PE.place, CSt.val]
    · simp [CSt.val]
  | false =>
    obtain rfl := hw rfl
    simp [h0, hS.P, hKi, CSt.val, e1]
    refine hv'.mono ?_
    rintro _ K ⟨rfl, rfl⟩
    simp
    refine hl.mono ?_
    rintro _ K ⟨rfl, rfl⟩
    simp [e2]
    refine aCond_dec (fun hlt => by omega) (fun hge => ?_)
    simp
    rw [aC_draw (hc := by kernel_rfl)]
    simp [hS.P, hKi, hKn, CSt.val, hne, hne.symm, e3, e4, e5, e6]
    refine aIf_mk (by simp [chkH, hnk, hnk.symm]) ?_
    simp [hS.P, hKi, hKn, CSt.val, hne, hne.symm, hnk, hnk.symm, hnn, hnn.symm, e3, e4, e5, e6]
    refine (none_spec hS).go ?_
    simp [hS.P, hKi, hKn, CSt.val, hne, hne.symm, hnk, hnk.symm, hnn, hnn.symm, encR]
    refine Leave.frz (id := K.nx) (zs := [(c.inn c.len).val]) (sz := 3) (ver := 0) (by simp [AH.get_put, hnk, hnk.symm, hnn, hnn.symm, CSt.val, CSt.inn]) (.tup _ [.int .i64 t.toNat, .eptr [(c.inn c.len).val] 0 0, .agg [.int .i64 0, .int .i64 (-1)]] rfl fun j x y h1 h2 => by
      rcases j with _ | _ | _ | j <;> simp at h1 h2
      · subst h1 h2; exact .refl _
      · subst h1 h2; exact .ptr 0 0
      · subst h1 h2; exact .refl _) ?_
    refine Leave.keep (H'' := H.put i (.row [(c.past c.len).val] 3 0)) (keep_one hi (by simp) ?_ ?_) ?_ ⟨?_, ?_⟩
    · intro x hx d hd
      simp only [List.mem_singleton] at hx
      subst hx
      simp [CSt.val] at hd
      rcases hd with rfl | rfl | rfl
      · exact (encBytes_data _).mono fun _ h => h.elim
      · exact .int _ _
      · exact .int _ _
    · intro k hk
      have h4 : k ≠ H.nx := by rintro rfl; simp at hk
      have h5 : k ≠ K.nx := by rintro rfl; exact hk hfree
      simp [AH.get_put, h4, h5, CSt.val, CSt.past, keeps k hk]
    · exact ((show AV.Data (.tup [.int .i64 t.toNat, .eptr [(c.inn c.len).val] 0 0, .agg [.int .i64 0, .int .i64 (-1)]]) by simp [CSt.val]).mono fun _ h => h.elim)
    · simp [htn, encPR, encR, PE.code, PE.place, CSt.val]
    · simp [CSt.val]
end Go.Proofs.YtdcopkocdmkiiaaDoor.Am
set_option linter.unusedVariables false
set_option linter.unusedSimpArgs false
namespace Go.Proofs.YtdcopkocdmkiiaaDoor.Am
open Go.RowKit Go.Proofs

theorem rnext_bad {X : Ctx} (hS : Sent X) {H : AH} {i : Nat} {c : CSt} (hi : H.get i = .row [c.val] 3 0) (hc : c.Ok) (he : c.nextE ≠ .none) :
    ACalls X 84 [.ptr i 0 0 0] H fun v H' => v = .tup [.int .i64 0, .nilp, encPR c.nextE] ∧ H' = H := by
  have hne : i ≠ H.nx := by rintro rfl; simp at hi
  refine acalls' (N := 10) (rs := [.tmp 2, .tmp 3, .cell 4 29]) [] (by rw [hS.P]; exact Tryd.func84) rfl rfl rfl (by decide) (by simp) ?_
  simp [entryR, hS.P]
  have hKi : (H.put H.nx (.row [.agg [.int .i64 0, .int .i64 0]] 2 0)).get i = .row [c.val] 3 0 := by rw [AH.put_ne _ _ hne]; exact hi
  refine (rrec_bad hS hKi hc 0 true (by simpa [CSt.rE] using he)).mono ?_
  rintro _ _ ⟨rfl, rfl⟩
  simp [hS.P, encPR, encR, CSt.rE]
  exact Leave.data (by repeat (first | exact keeps_refl _ | refine put_keeps (by first | simp | simp [AH.free_add]) ?_)) (by simp) (by simp [encPR, encR])
theorem rnext_ok {X : Ctx} (hS : Sent X) {H : AH} {i : Nat} {c : CSt} (hi : H.get i = .row [c.val] 3 0) (hc : c.Ok) (he : c.nextE = .none) :
    ACalls X 84 [.ptr i 0 0 0] H fun v H' => v = .tup [.int .i64 (c.num 0 1), .eptr [(c.inn c.len).val] 0 0, encPR .none] ∧ H' = H.put i (.row [(c.past c.len).val] 3 0) := by
  have hne : i ≠ H.nx := by rintro rfl; simp at hi
  refine acalls' (N := 10) (rs := [.tmp 2, .tmp 3, .cell 4 29]) [] (by rw [hS.P]; exact Tryd.func84) rfl rfl rfl (by decide) (by simp) ?_
  simp [entryR, hS.P]
  have hKi : (H.put H.nx (.row [.agg [.int .i64 0, .int .i64 0]] 2 0)).get i = .row [c.val] 3 0 := by rw [AH.put_ne _ _ hne]; exact hi
  refine (rrec_ok hS hKi hc 0 true (by simpa [CSt.rE] using he)).mono ?_
  rintro _ _ ⟨rfl, rfl⟩
  simp [hS.P, encPR, encR, CSt.rE, hne, hne.symm]
  refine Leave.keep (H'' := H.put i (.row [(c.past c.len).val] 3 0)) (keep_one hi (by simp) ?_ ?_) ?_ ⟨?_, rfl⟩
  · intro x hx d hd
    simp only [List.mem_singleton] at hx
    subst hx
    simp [CSt.val] at hd
    rcases hd with rfl | rfl | rfl
    · exact (encBytes_data _).mono fun _ h => h.elim
    · exact .int _ _
    · exact .int _ _
  · intro k hk
    have h4 : k ≠ H.nx := by rintro rfl; simp at hk
    simp [AH.get_put, h4, CSt.val, CSt.past]
  · exact ((show AV.Data (.tup [.int .i64 (c.num 0 1), .eptr [(c.inn c.len).val] 0 0, .agg [.int .i64 0, .int .i64 (-1)]]) by simp [CSt.val]).mono fun _ h => h.elim)
  · simp

theorem rrecord_bad {X : Ctx} (hS : Sent X) {H : AH} {i : Nat} {c : CSt} (hi : H.get i = .row [c.val] 3 0) (hc : c.Ok) (t : Int) (he : c.recE t ≠ .none) :
    ACalls X 88 [.ptr i 0 0 0, .int .i64 t] H fun v H' => v = .tup [.nilp, encPR (c.recE t)] ∧ H' = H := by
  have hne : i ≠ H.nx := by rintro rfl; simp at hi
  refine acalls' (N := 18) (rs := [.tmp 4, .cell 5 29]) [] (by rw [hS.P]; exact Tryd.func88) rfl rfl rfl (by decide) (by simp) ?_
  simp [entryR, hS.P]
  have hKi : (H.put H.nx (.row [.agg [.int .i64 0, .int .i64 0]] 2 0)).get i = .row [c.val] 3 0 := by rw [AH.put_ne _ _ hne]; exact hi
  refine (rrec_bad hS hKi hc t false (by simpa [CSt.rE] using he)).mono ?_
  rintro _ _ ⟨rfl, rfl⟩
  simp [hS.P, encPR, encR, CSt.rE]
  rw [aC_draw (hc := by kernel_rfl)]
  simp [hS.P]
  refine aIf_mk (by simp [chkH]) ?_
  simp [hS.P]
  exact Leave.data (by repeat (first | exact keeps_refl _ | refine put_keeps (by first | simp | simp [AH.free_add]) ?_)) (by simp) (by simp [encPR, encR])
theorem rrecord_ok {X : Ctx} (hS : Sent X) {H : AH} {i : Nat} {c : CSt} (hi : H.get i = .row [c.val] 3 0) (hc : c.Ok) (t : Int) (he : c.recE t = .none) :
    ACalls X 88 [.ptr i 0 0 0, .int .i64 t] H fun v H' => v = .tup [.eptr [(c.inn c.len).val] 0 0, encPR .none] ∧ H' = H.put i (.row [(c.past c.len).val] 3 0) := by
  have hne : i ≠ H.nx := by rintro rfl; simp at hi
  have hlt : i < H.nx + 1 := by have := AH.lt_nx (AH.ne_free hi); omega
  have hn1 : ¬ H.nx = H.nx + 1 := by omega
  refine acalls' (N := 18) (rs := [.tmp 4, .cell 5 29]) [] (by rw [hS.P]; exact Tryd.func88) rfl rfl rfl (by decide) (by simp) ?_
  simp [entryR, hS.P]
  have hKi : (H.put H.nx (.row [.agg [.int .i64 0, .int .i64 0]] 2 0)).get i = .row [c.val] 3 0 := by rw [AH.put_ne _ _ hne]; exact hi
  refine (rrec_ok hS hKi hc t false (by simpa [CSt.rE] using he)).mono ?_
  rintro _ _ ⟨rfl, rfl⟩
  simp [hS.P, encPR, encR, CSt.rE, hne, hne.symm, hlt]
  rw [aC_draw (hc := by kernel_rfl)]
  simp [hS.P, hne, hne.symm, hlt, hn1]
  refine aIf_mk (by simp [chkH]) ?_
  simp [hS.P, hne, hne.symm, hlt, hn1]
  refine Leave.keep (H'' := H.put i (.row [(c.past c.len).val] 3 0)) (keep_one hi (by simp) ?_ ?_) ?_ ⟨?_, rfl⟩
  · intro x hx d hd
    simp only [List.mem_singleton] at hx
    subst hx
    simp [CSt.val] at hd
    rcases hd with rfl | rfl | rfl
    · exact (encBytes_data _).mono fun _ h => h.elim
    · exact .int _ _
    · exact .int _ _
  · intro k hk
    have h4 : k ≠ H.nx := by rintro rfl; simp at hk
    have h5 : k ≠ H.nx + 1 := by rintro rfl; simp [AH.free_add] at hk
    simp [AH.get_put, h4, h5, CSt.val, CSt.past]
  · exact ((show AV.Data (.tup [.eptr [(c.inn c.len).val] 0 0, .agg [.int .i64 0, .int .i64 (-1)]]) by simp [CSt.val]).mono fun _ h => h.elim)
  · simp [encPR, encR]
end Go.Proofs.YtdcopkocdmkiiaaDoor.Am
set_option linter.unusedVariables false
set_option linter.unusedSimpArgs false
namespace Go.Proofs.YtdcopkocdmkiiaaDoor.Am
open Go.RowKit Go.Proofs

theorem nextE_at {c : CSt} (he : c.nextE ≠ .none) : ∃ p g, c.nextE = .at p g ∧ 1 ≤ g ∧ g ≤ 20 := by
  unfold CSt.nextE at he ⊢
  split
  · exact ⟨_, _, rfl, by decide, by decide⟩
  · split
    · exact ⟨_, _, rfl, by decide, by decide⟩
    · split
      · exact ⟨_, _, rfl, by decide, by decide⟩
      · rename_i h1 h2 h3
        exact absurd (by simp [h1, h2, h3]) he
theorem keeps_nx {H K : AH} (h : ∀ i, H.get i ≠ .free → K.get i = H.get i) : H.get K.nx = .free :=
  Classical.byContradiction fun hn => hn (by have := h _ hn; rw [AH.fresh] at this; exact this.symm)
theorem rsplit_spec {X : Ctx} (hS : Sent X) (b : List UInt8) (hb : b.length ≤ 1073741824) : ACalc X 18 [.fsl (b.map encB)] (.tup [.fsl ((split b).1.map encRec), encPR (split b).2]) := by
  intro H
  refine acalls' (N := 43) (rs := [.tmp 2, .cell 3 29]) [40] (by rw [hS.P]; exact Tryd.func18) rfl rfl rfl (by decide) (by simp) ?_
  simp [entryR, hS.P]
  refine (ropen_spec hS b hb _).mono ?_
  rintro _ _ ⟨rfl, rfl⟩
  simp
  generalize hK0 : (H.put H.nx (.row [.agg [.int .i64 0, .int .i64 0]] 2 0)).put (H.nx + 1) (.row [CSt.val ⟨b, 0, b.length⟩] 3 0) = K0
  have hnx0 : K0.nx = H.nx + 2 := by rw [← hK0]; simp [AH.put]
  have f2 : H.get (H.nx + 2) = .free := AH.free_add H 2
  have f1 : H.get (H.nx + 1) = .free := AH.free_add H 1
  refine AWp.loop (S := Nat × CSt × List RecD × AH) (fun p => splitF p.1 p.2.1 p.2.2.1 = split b ∧ p.2.1.Ok ∧ p.2.1.bound - p.2.1.at_ < p.1 ∧ p.2.2.1.length ≤ p.2.1.at_ ∧ p.2.1.b = b ∧
      p.2.2.2.get H.nx = .row [.agg [.int .i64 0, .int .i64 0]] 2 0 ∧ p.2.2.2.get (H.nx + 1) = .row [p.2.1.val] 3 0 ∧ p.2.2.2.get (H.nx + 2) = .row (p.2.2.1.map encRec) 2 p.2.2.1.length ∧ ∀ i, H.get i ≠ .free → p.2.2.2.get i = H.get i)
    (fun p => [(0, .fsl (b.map encB)), (3, .ptr H.nx 0 0 0), (4, .ptr (H.nx + 1) 0 0 0), (5, .sl (H.nx + 2) p.2.2.1.length 0 p.2.2.1.length)]) (fun p => p.2.2.2) (fun p => p.1)
    (b.length + 1, ⟨b, 0, b.length⟩, [], K0.put (H.nx + 2) (.row [] 2 0)) ⟨rfl, ⟨by simp, by simp, hb⟩, by simp, by simp, rfl, ?_, ?_, by simp, ?_⟩ ?_ fun p hp => ?_
  · rw [← hK0]; simp
  · rw [← hK0]; simp
  · rw [← hK0]; exact put_keeps f2 (put_keeps f1 (put_keeps (by simp) (keeps_refl _)))
  · exact Wk.mat (id := H.nx + 2) 2 (by rw [← hnx0]; simp) (by simp [Mat])
  · obtain ⟨k, c, acc, K⟩ := p
    obtain ⟨hF, hc, hk, hacc, hcb, g0, hi, ho, keeps⟩ := hp
    simp only at hF hc hk hacc hcb g0 hi ho keeps
    obtain ⟨k, rfl⟩ : ∃ j, k = j + 1 := ⟨k - 1, by omega⟩
    obtain ⟨h1, h2, h3⟩ := id hc
    refine aC_sound (lv := [40]) _ _ _ _ ?_
    simp [hS.P]
    refine (rleft_spec hS (.inl ⟨_, rfl, hi⟩) hc).mono ?_
    rintro _ K2 ⟨rfl, rfl⟩
    simp
    refine aCond_dec (fun hlt => ?_) (fun hge => ?_)
    · have hne : ¬ c.bound - c.at_ = 0 := by omega
      simp
      by_cases he : c.nextE = .none
      · refine (rnext_ok hS hi hc he).mono ?_
        rintro _ K3 ⟨rfl, rfl⟩
        obtain ⟨n1, n2⟩ := next_ok_at hc he
        have e2 : (0 : Int) ≤ (c.at_ : Int) + 3 := by omega
        have e3 : (c.at_ : Int) + 3 ≤ (c.at_ : Int) + 3 + c.len := by omega
        have e4 : (c.at_ : Int) + 3 + c.len ≤ b.length := by rw [← hcb]; omega
        have e5 : ((c.at_ : Int) + 3).toNat = c.at_ + 3 := by omega
        have e6 : ((c.at_ : Int) + 3 + c.len - ((c.at_ : Int) + 3)).toNat = c.len := by omega
        have e7 : min c.len (b.length - (c.at_ + 3)) ≤ 140737488355328 := by omega
        have hnk : H.nx + 2 < K2.nx := AH.lt_nx (AH.ne_free ho)
        simp [hS.P, encPR, encR, PE.code]
        generalize hK3 : K2.put (H.nx + 1) (.row [(c.past c.len).val] 3 0) = K3
        have hn3 : K3.nx = K2.nx := by rw [← hK3]; simp [AH.put]; omega
        have i3 : K3.get (H.nx + 1) = .row [(c.past c.len).val] 3 0 := by rw [← hK3]; simp
        have o3 : K3.get (H.nx + 2) = .row (acc.map encRec) 2 acc.length := by rw [← hK3]; simp [ho]
        have z3 : K3.get H.nx = .row [.agg [.int .i64 0, .int .i64 0]] 2 0 := by rw [← hK3]; simp [g0]
        have keeps3 : ∀ i, H.get i ≠ .free → K3.get i = H.get i := by rw [← hK3]; exact put_keeps f1 keeps
        have m1 : ¬ H.nx + 2 = K3.nx := by omega
        have m2 : ¬ H.nx + 1 = K3.nx := by omega
        have m3 : ¬ H.nx = K3.nx := by omega
        have m4 : ¬ H.nx = H.nx + 2 := by omega
        rw [aC_draw (hc := by kernel_rfl)]
        have hmap : List.take c.len (List.drop (c.at_ + 3) (List.map encB b)) = c.recd.body.map encB := by rw [← hcb]; simp [CSt.recd, List.map_take, List.map_drop]
        have hbl : c.recd.body.length ≤ 140737488355328 := by simp [CSt.recd]; omega
        simp [hS.P, CSt.val, CSt.inn, e2, e3, e4, e5, e6, e7, o3, m1, hmap, hbl]
        refine aIf_mk (by omega) ?_
        simp [hS.P, m1]
        refine ⟨k, c.past c.len, acc ++ [c.recd], _, ⟨?_, ⟨?_, h2, h3⟩, ?_, ?_, hcb, ?_, ?_, ?_, ?_⟩, by omega, Wk.regs (by simp)⟩
        · rw [← hF]; simp [splitF, hne, he]
        · simp [CSt.past]; omega
        · simp [CSt.past]; omega
        · simp [CSt.past]; omega
        · simp [m3, m4, z3]
        · simp [m2, i3, CSt.val]
        · simp [encRec, encBytes, CSt.recd]
        · exact put_keeps f2 (put_keeps (keeps_nx keeps3) keeps3)
      · refine (rnext_bad hS hi hc he).mono ?_
        rintro _ K3 ⟨rfl, rfl⟩
        have hR : split b = ([], c.nextE) := by rw [← hF]; simp [splitF, hne, he]
        obtain ⟨p, g, hg, hg1, hg2⟩ := nextE_at he
        have hg0 : ¬ g = 0 := by omega
        have hnk : H.nx + 2 < K3.nx := AH.lt_nx (AH.ne_free ho)
        have m3 : ¬ H.nx = K3.nx := by omega
        simp [hS.P, hg, encPR, encR, PE.code, PE.place, codeG, hg0]
        rw [aC_draw (hc := by kernel_rfl)]
        simp [hS.P, g0, m3]
        refine aIf_mk (by simp [chkH, m3, Ne.symm m3]) ?_
        simp [hS.P, m3]
        refine Leave.le (v' := .tup [.fsl [], .agg [.int .i64 g, .int .i64 p]]) ?_ (Leave.data ?_ (by simp) ?_)
        · exact Le.tup rfl fun j x y h1 h2 => by
            rcases j with _ | _ | j <;> simp at h1 h2
            · subst h1 h2; exact Le.csl []
            · subst h1 h2; exact Le.refl _
        · exact put_keeps (by simp) (put_keeps (keeps_nx keeps) keeps)
        · simp [hR, hg, encPR, encR, PE.code, PE.place, codeG]
    · have h0 : c.bound - c.at_ = 0 := by omega
      have hR : split b = (acc, .none) := by rw [← hF]; simp [splitF, h0]
      simp
      refine (none_spec hS).go ?_
      simp [hS.P, g0]
      have m4 : ¬ H.nx + 2 = H.nx := by omega
      refine Leave.frz (id := H.nx + 2) (by simp [m4]; exact ho) (.tup _ [.fsl ((((acc.map encRec).drop 0).take acc.length)), encR 0 (-1)] rfl fun j x y h1 h2 => by
        rcases j with _ | _ | j <;> simp at h1 h2
        · subst h1 h2; exact .sl 0 acc.length (by simp)
        · subst h1 h2; exact .refl _) ?_
      refine Leave.data (put_keeps f2 (put_keeps (by simp) keeps)) (by simp [List.take_of_length_le, encRec]) ?_
      simp [hR, List.take_of_length_le, encPR, PE.code, PE.place]
end Go.Proofs.YtdcopkocdmkiiaaDoor.Am
set_option linter.unusedVariables false
set_option linter.unusedSimpArgs false
namespace Go.Proofs.YtdcopkocdmkiiaaDoor.Am
open Go.RowKit Go.Proofs

theorem recE_ok {c : CSt} {t : Int} (he : c.recE t ≠ .none) : ∃ p g, c.recE t = .at p g ∧ 1 ≤ g ∧ g ≤ 20 := by
  unfold CSt.recE at he ⊢
  split
  · exact ⟨_, _, rfl, by decide, by decide⟩
  · split
    · exact ⟨_, _, rfl, by decide, by decide⟩
    · split
      · exact ⟨_, _, rfl, by decide, by decide⟩
      · rename_i h1 h2 h3
        exact absurd (by simp [h1, h2, h3]) he
theorem rexpect_spec {X : Ctx} (hS : Sent X) (b : List UInt8) (hb : b.length ≤ 1073741824) (tags : List Int) (ht : tags.length ≤ 1073741824) : ACalc X 21 [.fsl (b.map encB), .fsl (tags.map encInt)] (.tup [.fsl ((expect b tags).1.map encBytes), encPR (expect b tags).2]) := by
  intro H
  refine acalls' (N := 56) (rs := [.tmp 4, .cell 5 29]) [47] (by rw [hS.P]; exact Tryd.func21) rfl rfl rfl (by decide) (by simp) ?_
  simp [entryR, hS.P]
  refine (ropen_spec hS b hb _).mono ?_
  rintro _ _ ⟨rfl, rfl⟩
  simp
  generalize hK0 : (H.put H.nx (.row [.agg [.int .i64 0, .int .i64 0]] 2 0)).put (H.nx + 1) (.row [CSt.val ⟨b, 0, b.length⟩] 3 0) = K0
  have hnx0 : K0.nx = H.nx + 2 := by rw [← hK0]; simp [AH.put]
  have f2 : H.get (H.nx + 2) = .free := AH.free_add H 2
  have f1 : H.get (H.nx + 1) = .free := AH.free_add H 1
  refine AWp.loop (S := Nat × CSt × List (List UInt8) × AH) (fun p => p.1 ≤ tags.length ∧ expectF (tags.drop p.1) p.2.1 p.2.2.1 = expect b tags ∧ p.2.1.Ok ∧ p.2.2.1.length ≤ p.1 ∧ p.2.1.b = b ∧
      p.2.2.2.get H.nx = .row [.agg [.int .i64 0, .int .i64 0]] 2 0 ∧ p.2.2.2.get (H.nx + 1) = .row [p.2.1.val] 3 0 ∧ p.2.2.2.get (H.nx + 2) = .row (p.2.2.1.map encBytes) 1 p.2.2.1.length ∧ ∀ i, H.get i ≠ .free → p.2.2.2.get i = H.get i)
    (fun p => [(0, .fsl (b.map encB)), (1, .fsl (tags.map encInt)), (5, .ptr H.nx 0 0 0), (6, .ptr (H.nx + 1) 0 0 0), (7, .sl (H.nx + 2) p.2.2.1.length 0 p.2.2.1.length), (8, .int .i64 p.1)]) (fun p => p.2.2.2) (fun p => tags.length - p.1)
    (0, ⟨b, 0, b.length⟩, [], K0.put (H.nx + 2) (.row [] 1 0)) ⟨Nat.zero_le _, rfl, ⟨by simp, by simp, hb⟩, by simp, rfl, ?_, ?_, by simp, ?_⟩ ?_ fun p hp => ?_
  · rw [← hK0]; simp
  · rw [← hK0]; simp
  · rw [← hK0]; exact put_keeps f2 (put_keeps f1 (put_keeps (by simp) (keeps_refl _)))
  · exact Wk.mat (id := H.nx + 2) 1 (by rw [← hnx0]; simp) (by simp [Mat])
  · obtain ⟨n, c, acc, K⟩ := p
    obtain ⟨hn, hF, hc, hacc, hcb, g0, hi, ho, keeps⟩ := hp
    simp only at hF hc hn hacc hcb g0 hi ho keeps
    obtain ⟨h1, h2, h3⟩ := id hc
    have hnk : H.nx + 2 < K.nx := AH.lt_nx (AH.ne_free ho)
    refine aC_sound (lv := [47]) _ _ _ _ ?_
    simp [hS.P]
    refine aCond_dec (fun hlt => ?_) (fun hge => ?_)
    · obtain ⟨t, htg⟩ : ∃ t, tags[n]? = some t := ⟨tags[n], List.getElem?_eq_getElem hlt⟩
      have hdrop : tags.drop n = t :: tags.drop (n + 1) := by
        rw [List.drop_eq_getElem_cons hlt]
        obtain ⟨_, h⟩ := List.getElem?_eq_some_iff.1 htg
        rw [h]
      rw [hdrop] at hF
      simp [hS.P, htg, encInt]
      by_cases he : c.recE t = .none
      · refine (rrecord_ok hS hi hc t he).mono ?_
        rintro _ K3 ⟨rfl, rfl⟩
        obtain ⟨n1, n2⟩ := rec_ok_at hc he
        have e1 : IntKind.i64.wrap ((n : Int) + 1) = ((n + 1 : Nat) : Int) := by rw [wrap64 (by omega) (by omega)]; simp
        have e2 : (0 : Int) ≤ (c.at_ : Int) + 3 := by omega
        have e3 : (c.at_ : Int) + 3 ≤ (c.at_ : Int) + 3 + c.len := by omega
        have e4 : (c.at_ : Int) + 3 + c.len ≤ b.length := by rw [← hcb]; omega
        have e5 : ((c.at_ : Int) + 3).toNat = c.at_ + 3 := by omega
        have e6 : ((c.at_ : Int) + 3 + c.len - ((c.at_ : Int) + 3)).toNat = c.len := by omega
        simp [hS.P, encPR, encR, PE.code]
        generalize hK3 : K.put (H.nx + 1) (.row [(c.past c.len).val] 3 0) = K3
        have hn3 : K3.nx = K.nx := by rw [← hK3]; simp [AH.put]; omega
        have i3 : K3.get (H.nx + 1) = .row [(c.past c.len).val] 3 0 := by rw [← hK3]; simp
        have o3 : K3.get (H.nx + 2) = .row (acc.map encBytes) 1 acc.length := by rw [← hK3]; simp [ho]
        have z3 : K3.get H.nx = .row [.agg [.int .i64 0, .int .i64 0]] 2 0 := by rw [← hK3]; simp [g0]
        have keeps3 : ∀ i, H.get i ≠ .free → K3.get i = H.get i := by rw [← hK3]; exact put_keeps f1 keeps
        have m1 : ¬ H.nx + 2 = K3.nx := by omega
        have m2 : ¬ H.nx + 1 = K3.nx := by omega
        have m3 : ¬ H.nx = K3.nx := by omega
        have m4 : ¬ H.nx = H.nx + 2 := by omega
        rw [aC_draw (hc := by kernel_rfl)]
        have hmap : List.take c.len (List.drop (c.at_ + 3) (List.map encB b)) = ((c.b.drop (c.at_ + 3)).take c.len).map encB := by rw [← hcb]; simp [List.map_take, List.map_drop]
        generalize hbd : (c.b.drop (c.at_ + 3)).take c.len = bd at hmap
        have hbl : bd.length ≤ 140737488355328 := by rw [← hbd]; simp; omega
        simp [hS.P, CSt.val, CSt.inn, e2, e3, e4, e5, e6, o3, m1, hmap, hbl]
        refine aIf_mk (by omega) ?_
        simp [hS.P, m1, e1]
        refine ⟨n + 1, c.past c.len, acc ++ [bd], _, ⟨hlt, ?_, ⟨?_, h2, h3⟩, ?_, hcb, ?_, ?_, ?_, ?_⟩, by omega, Wk.regs (by simp [e1, encInt])⟩
        · rw [← hF, ← hbd]; simp [expectF, he]
        · simp [CSt.past]; omega
        · simp; omega
        · simp [m3, m4, z3]
        · simp [m2, i3, CSt.val]
        · simp [encBytes]
        · exact put_keeps f2 (put_keeps (keeps_nx keeps3) keeps3)
      · refine (rrecord_bad hS hi hc t he).mono ?_
        rintro _ K3 ⟨rfl, rfl⟩
        have hR : expect b tags = ([], c.recE t) := by rw [← hF]; simp [expectF, he]
        obtain ⟨p, g, hg, hg1, hg2⟩ := recE_ok he
        have hg0 : ¬ g = 0 := by omega
        have m3 : ¬ H.nx = K3.nx := by omega
        simp [hS.P, hg, encPR, encR, PE.code, PE.place, codeG, hg0]
        rw [aC_draw (hc := by kernel_rfl)]
        simp [hS.P, g0, m3]
        refine aIf_mk (by simp [chkH, m3, Ne.symm m3]) ?_
        simp [hS.P, m3]
        refine Leave.le (v' := .tup [.fsl [], .agg [.int .i64 g, .int .i64 p]]) ?_ (Leave.data ?_ (by simp) ?_)
        · exact Le.tup rfl fun j x y h1 h2 => by
            rcases j with _ | _ | j <;> simp at h1 h2
            · subst h1 h2; exact Le.csl []
            · subst h1 h2; exact Le.refl _
        · exact put_keeps (by simp) (put_keeps (keeps_nx keeps) keeps)
        · simp [hR, hg, encPR, encR, PE.code, PE.place, codeG]
    · obtain rfl : n = tags.length := by omega
      simp at hF
      have m3 : ¬ H.nx = K.nx := by omega
      simp
      refine (rend_spec hS hi hc).mono ?_
      rintro _ K3 ⟨rfl, rfl⟩
      by_cases he : c.endE = .none
      · have hR : expect b tags = (acc, .none) := by rw [← hF]; simp [expectF, he]
        simp [hS.P, he, encPR, encR, PE.code]
        refine (none_spec hS).go ?_
        simp [hS.P, g0, m3, encR]
        have m4 : ¬ H.nx + 2 = H.nx := by omega
        have m5 : ¬ H.nx + 2 = K3.nx := by omega
        refine Leave.frz (id := H.nx + 2) (by simp [m4, m5]; exact ho) (.tup _ [.fsl ((((acc.map encBytes).drop 0).take acc.length)), encR 0 (-1)] rfl fun j x y h1 h2 => by
          rcases j with _ | _ | j <;> simp at h1 h2
          · subst h1 h2; exact .sl 0 acc.length (by simp)
          · subst h1 h2; exact .refl _) ?_
        refine Leave.data (put_keeps f2 (put_keeps (by simp) (put_keeps (keeps_nx keeps) keeps))) (by simp [List.take_of_length_le]) ?_
        simp [hR, List.take_of_length_le, encPR, encR, PE.code, PE.place]
      · have hR : expect b tags = ([], c.endE) := by rw [← hF]; simp [expectF, he]
        have hg : c.endE = .at c.at_ 2 := by
          unfold CSt.endE at he ⊢
          split
          · rename_i h; simp [h] at he
          · rfl
        simp [hS.P, hg, encPR, encR, PE.code, PE.place, codeG]
        rw [aC_draw (hc := by kernel_rfl)]
        simp [hS.P, g0, m3]
        refine aIf_mk (by simp [chkH, m3, Ne.symm m3]) ?_
        simp [hS.P, m3]
        refine Leave.le (v' := .tup [.fsl [], .agg [.int .i64 2, .int .i64 c.at_]]) ?_ (Leave.data ?_ (by simp) ?_)
        · exact Le.tup rfl fun j x y h1 h2 => by
            rcases j with _ | _ | j <;> simp at h1 h2
            · subst h1 h2; exact Le.csl []
            · subst h1 h2; exact Le.refl _
        · exact put_keeps (by simp) (put_keeps (keeps_nx keeps) keeps)
        · simp [hR, hg, encPR, encR, PE.code, PE.place, codeG]
end Go.Proofs.YtdcopkocdmkiiaaDoor.Am
set_option linter.unusedVariables false
set_option linter.unusedSimpArgs false
namespace Go.Proofs.YtdcopkocdmkiiaaDoor.Am
open Go.RowKit Go.Proofs

/-- A number in a range: what stands in the way. -/
def CSt.rngE (c : CSt) (w : Nat) (lo hi : Int) : PE :=
  if c.bound - c.at_ < w then .at c.at_ 1 else if c.num 0 w < lo ∨ hi < c.num 0 w then .at c.at_ 4 else .none
/-- Past a number. -/
def CSt.skip (c : CSt) (w : Nat) : CSt := ⟨c.b, c.at_ + w, c.bound⟩
theorem rng_ok_at {c : CSt} {w : Nat} {lo hi : Int} (he : c.rngE w lo hi = .none) : w ≤ c.bound - c.at_ ∧ ¬ c.num 0 w < lo ∧ ¬ hi < c.num 0 w := by
  unfold CSt.rngE at he
  split at he
  · cases he
  · split at he
    · cases he
    · omega
theorem rng_lim {c : CSt} {w : Nat} {lo hi : Int} (he : c.rngE w lo hi ≠ .none) (h : w ≤ c.bound - c.at_) : (numOf ((c.b.drop c.at_).take w) < lo ∨ hi < numOf ((c.b.drop c.at_).take w)) ∧ c.rngE w lo hi = .at c.at_ 4 := by
  have e : c.num 0 w = numOf ((c.b.drop c.at_).take w) := by simp [CSt.num]
  unfold CSt.rngE at he ⊢
  rw [if_neg (by omega)] at he ⊢
  by_cases hx : c.num 0 w < lo ∨ hi < c.num 0 w
  · rw [if_pos hx]; rw [e] at hx; exact ⟨hx, rfl⟩
  · simp [hx] at he
theorem ranged_bad {X : Ctx} (hS : Sent X) {H : AH} {i : Nat} {c : CSt} (hi : H.get i = .row [c.val] 3 0) (hc : c.Ok) (w : Nat) (hw : w = 1 ∨ w = 2 ∨ w = 4) (lo hi' : Int) (he : c.rngE w lo hi' ≠ .none) :
    ACalls X 142 [.ptr i 0 0 0, .int .i64 w, .int .i64 lo, .int .i64 hi'] H fun v H' => v = .tup [.int .i64 0, encErr (c.rngE w lo hi')] ∧ H' = H := by
  have hp : CPtr H (.ptr i 0 0 0) c := .inl ⟨i, rfl, hi⟩
  obtain ⟨h1, h2, h3⟩ := id hc
  refine acalls' (N := 58) (rs := [.tmp 8, .tmp 9]) [] (by rw [hS.P]; exact Tryd.func142) rfl rfl rfl (by decide) (by simp) ?_
  have e4 : c.bound - c.at_ < w → c.rngE w lo hi' = .at c.at_ 1 := fun h => by unfold CSt.rngE; rw [if_pos h]
  have hpk := fun (H : AH) (hp : CPtr H (.ptr i 0 0 0) c) (h : c.at_ + 0 + w ≤ c.bound) => peek_spec hS hp hc 0 w (by omega) h
  have ew : w ≤ c.bound - c.at_ → IntKind.i64.wrap ((c.at_ : Int) + w) = (c.at_ : Int) + w := fun h => wrap64 (by omega) (by omega)
  rcases hw with rfl | rfl | rfl
  all_goals
    simp [entryR, hS.P]
    refine (left_spec hS hp hc).mono ?_
    rintro _ H ⟨rfl, rfl⟩
    simp
    refine aCond_dec (fun hlt => ?_) (fun hge => ?_)
    · simp
      rw [aC_draw (hc := by kernel_rfl)]
      simp [hS.P, hi, CSt.val, hS.e1]
      refine (at_spec hS c.at_ 1).call ?_
      simp
      exact Leave.data (keeps_refl _) (by simp) (by rw [e4 (by omega)]; exact ⟨rfl, rfl⟩)
    · have hr := rng_lim he; obtain ⟨hwk, e5⟩ := hr (by omega)
      simp [hS.P]
      refine (hpk H hp (by omega)).mono ?_
      rintro _ H ⟨rfl, rfl⟩
      simp only [Nat.add_zero]
      generalize numOf _ = n at hwk
      simp
      refine aGuard_decf (fun hl => ?_) (fun hl => ?_)
      · simp [hl]
        rw [aC_draw (hc := by kernel_rfl)]
        simp [hS.P, hi, CSt.val, hS.e4]
        refine (at_spec hS c.at_ 4).call ?_
        simp
        exact Leave.data (keeps_refl _) (by simp) (by rw [e5]; exact ⟨rfl, rfl⟩)
      · have hl2 : hi' < n := by omega
        simp [hl, hl2]
        rw [aC_draw (hc := by kernel_rfl)]
        simp [hS.P, hi, CSt.val, hS.e4]
        refine (at_spec hS c.at_ 4).call ?_
        simp
        exact Leave.data (keeps_refl _) (by simp) (by rw [e5]; exact ⟨rfl, rfl⟩)
theorem ranged_ok {X : Ctx} (hS : Sent X) {H : AH} {i : Nat} {c : CSt} (hi : H.get i = .row [c.val] 3 0) (hc : c.Ok) (w : Nat) (hw : w = 1 ∨ w = 2 ∨ w = 4) (lo hi' : Int) (he : c.rngE w lo hi' = .none) :
    ACalls X 142 [.ptr i 0 0 0, .int .i64 w, .int .i64 lo, .int .i64 hi'] H fun v H' => v = .tup [.int .i64 (c.num 0 w), .nili] ∧ H' = H.put i (.row [(c.skip w).val] 3 0) := by
  have hp : CPtr H (.ptr i 0 0 0) c := .inl ⟨i, rfl, hi⟩
  obtain ⟨h1, h2, h3⟩ := id hc
  obtain ⟨q1, q2, q3⟩ := rng_ok_at he
  refine acalls' (N := 58) (rs := [.tmp 8, .tmp 9]) [] (by rw [hS.P]; exact Tryd.func142) rfl rfl rfl (by decide) (by simp) ?_
  have hpk := fun (H : AH) (hp : CPtr H (.ptr i 0 0 0) c) (h : c.at_ + 0 + w ≤ c.bound) => peek_spec hS hp hc 0 w (by omega) h
  have ew : w ≤ c.bound - c.at_ → IntKind.i64.wrap ((c.at_ : Int) + w) = (c.at_ : Int) + w := fun h => wrap64 (by omega) (by omega)
  rcases hw with rfl | rfl | rfl
  all_goals
    simp [entryR, hS.P]
    refine (left_spec hS hp hc).mono ?_
    rintro _ H ⟨rfl, rfl⟩
    simp
    refine aCond_dec (fun hlt => by omega) (fun hge => ?_)
    simp [hS.P]
    refine (hpk H hp (by omega)).mono ?_
    rintro _ H ⟨rfl, rfl⟩
    simp only [CSt.num] at q2 q3 ⊢
    simp only [Nat.add_zero] at q2 q3 ⊢
    generalize hn : numOf _ = n at q2 q3 ⊢
    have ew := ew q1
    simp at ew
    simp [hS.P, q2, q3, hi, CSt.val, ew]
    refine Leave.keep (H'' := H.put i (.row [(CSt.skip c _).val] 3 0)) (keep_one hi (by simp) ?_ ?_) ?_ ⟨by simp [CSt.num, hn], rfl⟩
    · intro x hx d hd
      simp only [List.mem_singleton] at hx
      subst hx
      simp [CSt.val] at hd
      rcases hd with rfl | rfl | rfl
      · exact (encBytes_data _).mono fun _ h => h.elim
      · exact .int _ _
      · exact .int _ _
    · intro k hk
      simp [CSt.skip, CSt.val]
    · exact ((show AV.Data (.tup [.int .i64 n, .nili]) by simp).mono fun _ h => h.elim)
theorem u8_bad {X : Ctx} (hS : Sent X) {H : AH} {i : Nat} {c : CSt} (hi : H.get i = .row [c.val] 3 0) (hc : c.Ok) (he : c.rngE 1 0 255 ≠ .none) :
    ACalls X 78 [.ptr i 0 0 0] H fun v H' => v = .tup [.int .i64 0, encErr (c.rngE 1 0 255)] ∧ H' = H := by
  refine acalls' (N := 9) (rs := [.tmp 2, .tmp 3]) [] (by rw [hS.P]; exact Tryd.func78) rfl rfl rfl (by decide) (by simp) ?_
  simp [entryR, hS.P]
  refine (most_spec hS 1 (by decide)).go ?_
  simp [hS.P]
  refine (ranged_bad hS hi hc 1 (.inl rfl) 0 255 he).mono ?_
  rintro _ _ ⟨rfl, rfl⟩
  simp [hS.P]
  exact Leave.stay ⟨rfl, rfl⟩
theorem u8_ok {X : Ctx} (hS : Sent X) {H : AH} {i : Nat} {c : CSt} (hi : H.get i = .row [c.val] 3 0) (hc : c.Ok) (he : c.rngE 1 0 255 = .none) :
    ACalls X 78 [.ptr i 0 0 0] H fun v H' => v = .tup [.int .i64 (c.num 0 1), .nili] ∧ H' = H.put i (.row [(c.skip 1).val] 3 0) := by
  refine acalls' (N := 9) (rs := [.tmp 2, .tmp 3]) [] (by rw [hS.P]; exact Tryd.func78) rfl rfl rfl (by decide) (by simp) ?_
  simp [entryR, hS.P]
  refine (most_spec hS 1 (by decide)).go ?_
  simp [hS.P]
  refine (ranged_ok hS hi hc 1 (.inl rfl) 0 255 he).mono ?_
  rintro _ _ ⟨rfl, rfl⟩
  simp [hS.P]
  exact Leave.stay ⟨rfl, rfl⟩
end Go.Proofs.YtdcopkocdmkiiaaDoor.Am
set_option linter.unusedVariables false
set_option linter.unusedSimpArgs false
namespace Go.Proofs.YtdcopkocdmkiiaaDoor.Am
open Go.RowKit Go.Proofs

theorem fixed_spec {X : Ctx} (hS : Sent X) : ACalc X 13 [] (.bool true) := by
  intro H
  refine acalls' (N := 73) (rs := [.tmp 0]) [12, 20] (by rw [hS.P]; exact Tryd.func13) rfl rfl rfl (by decide) (by simp) ?_
  simp [entryR, hS.P]
  refine (new_spec hS _).mono ?_
  rintro _ _ ⟨rfl, rfl⟩
  simp [hS.P]
  generalize hK0 : (H.put H.nx (WSt.new.slot (H.nx + 1))).put (H.nx + 1) WSt.new.buf = K0
  have hW0 : WS K0 H.nx (H.nx + 1) WSt.new := by rw [← hK0]; exact ⟨by simp, by simp, by omega⟩
  refine (u16_spec hS _ _ _ 258 (by simp [WSt.new])).go hW0 ?_
  have hW1 := hW0.upd (WSt.new.num 258 2)
  generalize hK1 : K0.upd (wwr H.nx (H.nx + 1) (WSt.new.num 258 2)) = K1 at hW1 ⊢
  simp [hS.P]
  have k1 : ∀ i, H.get i ≠ .free → K1.get i = H.get i := by rw [← hK1, ← hK0]; exact WS.keeps (by simp) (AH.free_add H 1) (put_keeps (AH.free_add H 1) (put_keeps (by simp) (keeps_refl H)))
  refine ACalls.frz K1.nx 0 1 [encB 65] [.ptr H.nx 0 0 0, .int .i64 5, .fsl ([65].map encB)] (by simp [encB]) ⟨.refl _, .refl _, .all rfl, trivial⟩ ?_
  have hW2 : WS ((K1.put K1.nx (Slot.row [AV.int IntKind.u8 65] 1 0)).put K1.nx .dead) H.nx (H.nx + 1) (WSt.new.num 258 2) := by
    rw [AH.put_put]; exact hW1.other (AH.fresh K1) _
  refine (rcd_spec hS _ _ _ 5 [65] (by decide)).go hW2 ?_
  have hW3 := hW2.upd ((WSt.new.num 258 2).rcd 5 [65])
  generalize hK2 : ((K1.put K1.nx (Slot.row [AV.int IntKind.u8 65] 1 0)).put K1.nx .dead).upd (wwr H.nx (H.nx + 1) ((WSt.new.num 258 2).rcd 5 [65])) = K2 at hW3 ⊢
  simp [hS.P]
  have k2 : ∀ i, H.get i ≠ .free → K2.get i = H.get i := by rw [← hK2]; exact WS.keeps (by simp) (AH.free_add H 1) (put_keeps (keeps_nx k1) (put_keeps (keeps_nx k1) k1))
  refine (wdone_spec hS _ _ _ hW3 (by decide)).mono ?_
  rintro _ K2 ⟨rfl, rfl⟩
  rw [show WSt.done ((WSt.new.num 258 2).rcd 5 [65]) = .tup [encBytes [1, 2, 5, 0, 1, 65], .nili] by rfl]
  simp [hS.P]
  refine ACalls.frz K2.nx 0 1 ([5, 0, 1, 65].map encB) [.fsl ([5, 0, 1, 65].map encB)] (by simp [encB]) ⟨.all rfl, trivial⟩ ?_
  refine (open_spec hS [5, 0, 1, 65] (by decide) _).mono ?_
  rintro _ _ ⟨rfl, rfl⟩
  generalize hK3 : (K2.put K2.nx (Slot.row [AV.int IntKind.u8 5, AV.int IntKind.u8 0, AV.int IntKind.u8 1, AV.int IntKind.u8 65] 1 0)).put K2.nx .dead = K3
  have k3 : ∀ i, H.get i ≠ .free → K3.get i = H.get i := by rw [← hK3]; exact put_keeps (keeps_nx k2) (put_keeps (keeps_nx k2) k2)
  generalize hc : (⟨[5, 0, 1, 65], 0, [5, 0, 1, 65].length⟩ : CSt) = c
  have hco : c.Ok := by rw [← hc]; exact ⟨by decide, by decide, by decide⟩
  have hi : (K3.put K3.nx (.row [c.val] 3 0)).get K3.nx = .row [c.val] 3 0 := by simp
  have hr : c.recE 5 = .none := by rw [← hc]; simp [CSt.recE, CSt.num, CSt.len, numOf]
  generalize hbs : ([1, 2, 5, 0, 1, 65] : List UInt8) = bs
  simp [hS.P, encBytes]
  refine (rec_ok hS hi hco 5 hr).mono ?_
  rintro _ _ ⟨rfl, rfl⟩
  simp [hS.P]
  have ql : c.len = 1 := by rw [← hc]; simp [CSt.num, CSt.len, numOf]
  have q1 : c.inn 1 = ⟨[5, 0, 1, 65], 3, 4⟩ := by rw [← hc]; rfl
  have q2 : c.past 1 = ⟨[5, 0, 1, 65], 4, 4⟩ := by rw [← hc]; rfl
  rw [ql, q1, q2]
  generalize hd : (⟨[5, 0, 1, 65], 3, 4⟩ : CSt) = d
  generalize he : (⟨[5, 0, 1, 65], 4, 4⟩ : CSt) = e
  have hdo : d.Ok := by rw [← hd]; exact ⟨by decide, by decide, by decide⟩
  have heo : e.Ok := by rw [← he]; exact ⟨by decide, by decide, by decide⟩
  have k4 : ∀ i, H.get i ≠ .free → (K3.put K3.nx (.row [e.val] 3 0)).get i = H.get i := put_keeps (keeps_nx k3) k3
  have hie : (K3.put K3.nx (.row [e.val] 3 0)).get K3.nx = .row [e.val] 3 0 := by simp
  generalize hK4 : K3.put K3.nx (.row [e.val] 3 0) = K4 at k4 hie ⊢
  refine (at_pos hS (.inr rfl)).mono ?_
  rintro _ K4 ⟨rfl, rfl⟩
  rw [show d.at_ = 3 by rw [← hd]]
  simp [hS.P]
  refine (left_spec hS (.inr rfl) hdo).mono ?_
  rintro _ K4 ⟨rfl, rfl⟩
  rw [show d.at_ = 3 by rw [← hd], show d.bound = 4 by rw [← hd]]
  simp [hS.P]
  have er : e.rngE 1 0 255 = .at 4 1 := by rw [← he]; rfl
  refine (u8_bad hS hie heo (by rw [er]; simp)).mono ?_
  rintro _ K4 ⟨rfl, rfl⟩
  rw [er]
  simp [hS.P]
  refine (code_spec hS (.at 4 1) ⟨by decide, by decide⟩).go ?_
  simp [hS.P, PE.code, codeG]
  refine (place_spec hS (.at 4 1)).go ?_
  simp [hS.P, PE.place]
  refine ACalls.le [.fsl ([15, 160].map encB)] ⟨Le.csl _, trivial⟩ ?_
  refine (hex_spec hS [15, 160] (by decide)).go ?_
  rw [show hexOf [15, 160] = [48, 102, 97, 48] by decide]
  simp [hS.P]
  exact Leave.data k4 (by simp) (by simp)
end Go.Proofs.YtdcopkocdmkiiaaDoor.Am
set_option linter.unusedVariables false
set_option linter.unusedSimpArgs false
namespace Go.Proofs.YtdcopkocdmkiiaaDoor.Am
open Go.RowKit Go.Proofs

theorem put_ok {s : WSt} (h : s.err.Ok) (b : List UInt8) : (s.put b).err.Ok := by
  unfold WSt.put; split
  · trivial
  · exact h
theorem spoil_ok {s : WSt} (h : s.err.Ok) {g : Nat} (hg : 1 ≤ g ∧ g ≤ 20) : (s.spoil g).err.Ok := by
  unfold WSt.spoil; split
  · exact hg
  · exact h
theorem puts_ok (n : Int) : ∀ (k : Nat) {s : WSt}, s.err.Ok → (s.puts n k).err.Ok
  | 0, s, h => h
  | k + 1, s, h => puts_ok n k (put_ok h _)
theorem num_ok {s : WSt} (h : s.err.Ok) (n : Int) (k : Nat) : (s.num n k).err.Ok := by
  unfold WSt.num; split
  · exact spoil_ok h (by decide)
  · exact puts_ok n k h
theorem rcd_ok {s : WSt} (h : s.err.Ok) (t : Int) (b : List UInt8) : (s.rcd t b).err.Ok := by
  unfold WSt.rcd; split
  · exact spoil_ok h (by decide)
  · split
    · exact spoil_ok h (by decide)
    · exact put_ok (num_ok (num_ok h _ _) _ _) _
theorem joinF_ok : ∀ (l : List RecD) {s : WSt}, s.err.Ok → (l.foldl (fun s r => s.rcd r.tag r.body) s).err.Ok
  | [], s, h => h
  | r :: l, s, h => joinF_ok l (rcd_ok h _ _)
theorem join_ok (l : List RecD) : (joinSt l).err.Ok := joinF_ok l trivial
theorem nextE_ok' (c : CSt) : c.nextE.Ok := by
  unfold CSt.nextE; (repeat' split) <;> simp [PE.Ok]
theorem recE_ok' (c : CSt) (t : Int) : (c.recE t).Ok := by
  unfold CSt.recE; (repeat' split) <;> simp [PE.Ok]
theorem endE_ok' (c : CSt) : c.endE.Ok := by
  unfold CSt.endE; (repeat' split) <;> simp [PE.Ok]
theorem splitF_ok : ∀ (k : Nat) (c : CSt) (acc : List RecD), (splitF k c acc).2.Ok
  | 0, c, acc => trivial
  | k + 1, c, acc => by
    unfold splitF; split
    · trivial
    · split
      · exact splitF_ok k _ _
      · exact nextE_ok' c
theorem expectF_ok : ∀ (l : List Int) (c : CSt) (acc : List (List UInt8)), (expectF l c acc).2.Ok
  | [], c, acc => by
    unfold expectF; split
    · trivial
    · exact endE_ok' c
  | t :: ts, c, acc => by
    unfold expectF; split
    · exact expectF_ok ts _ _
    · exact recE_ok' c t
theorem split_ok (b : List UInt8) : (split b).2.Ok := splitF_ok ..
theorem expect_ok (b : List UInt8) (t : List Int) : (expect b t).2.Ok := expectF_ok ..
theorem unhexE_ok (s : List UInt8) : (unhexE s).Ok := by
  unfold unhexE; (repeat' split) <;> simp [PE.Ok]
theorem splitF_len : ∀ (k : Nat) (c : CSt) (acc : List RecD), c.Ok → (splitF k c acc).1.length ≤ acc.length + (c.bound - c.at_)
  | 0, c, acc, h => by simp [splitF]
  | k + 1, c, acc, h => by
    unfold splitF; split
    · simp
    · split
      · rename_i h1 h2
        obtain ⟨h3, h4⟩ := next_ok_at h h2
        obtain ⟨g1, g2, g3⟩ := h
        have := splitF_len k (c.past c.len) (acc ++ [c.recd]) ⟨by simp [CSt.past]; omega, g2, g3⟩
        simp [CSt.past] at this
        simp [CSt.past]
        omega
      · simp
theorem split_len (b : List UInt8) (hb : b.length ≤ 1073741824) : (split b).1.length ≤ b.length := by
  have := splitF_len (b.length + 1) ⟨b, 0, b.length⟩ [] ⟨by simp, by simp, hb⟩
  simpa [split] using this
theorem expectF_len : ∀ (l : List Int) (c : CSt) (acc : List (List UInt8)), (expectF l c acc).1.length ≤ acc.length + l.length
  | [], c, acc => by unfold expectF; split <;> simp
  | t :: ts, c, acc => by
    unfold expectF; split
    · have := expectF_len ts (c.past c.len) (acc ++ [(c.b.drop (c.at_ + 3)).take c.len])
      simp at this ⊢; omega
    · simp
theorem expect_len (b : List UInt8) (t : List Int) : (expect b t).1.length ≤ t.length := by
  have := expectF_len t ⟨b, 0, b.length⟩ []
  simpa [expect] using this
theorem sameR_refl (l : List RecD) : sameR l l := ⟨rfl, fun i x y h1 h2 => by rw [h1] at h2; cases h2; exact ⟨rfl, rfl⟩⟩
theorem mem_sum {l : List RecD} {r : RecD} (h : r ∈ l) : r.body.length + 3 ≤ (l.map fun r => r.body.length + 3).sum := by
  induction l with
  | nil => simp at h
  | cons x l ih =>
    simp at h ⊢
    rcases h with rfl | h
    · omega
    · have := ih h; omega

structure ListsD where
  recs : List RecD
  b : List UInt8
  tags : List Int
  s : List UInt8
def encLists (x : ListsD) : AV := .agg [.fsl (x.recs.map encRec), encBytes x.b, .fsl (x.tags.map encInt), .str x.s]
structure ListsD.Ok (x : ListsD) : Prop where
  recs : (x.recs.map fun r => r.body.length + 3).sum ≤ 1073741824
  b : x.b.length ≤ 1073741824
  tags : x.tags.length ≤ 1073741824
  s : x.s.length ≤ 1073741824

theorem wireLists_spec {X : Ctx} (hS : Sent X) (x : ListsD) (hx : x.Ok) : ACalc X 3 [encLists x] (.bool true) := by
  intro H
  refine acalls' (N := 145) (rs := [.tmp 2]) [4] (by rw [hS.P]; exact Tryd.func3) rfl rfl rfl (by decide) (by simp) ?_
  simp [entryR, hS.P, encLists]
  refine (fixed_spec hS).go ?_
  simp [hS.P]
  refine (rjoin_spec hS x.recs hx.recs).go ?_
  rw [rjoin_eq]
  simp [hS.P, encPR]
  refine (recs_spec hS.P x.recs (by have := len_sum x.recs; have := hx.recs; omega) (fun r hr => by have := mem_sum hr; have := hx.recs; omega)).go ?_
  simp [hS.P]
  refine (join_spec hS x.recs hx.recs).go ?_
  rw [WSt.done]
  simp [hS.P]
  refine (same02_spec hS _ (join_ok x.recs) _ _).go ?_
  simp [hS.P]
  simp [encBytes, hS.P]
  refine (rsplit_spec hS x.b hx.b).go ?_
  simp [hS.P, encPR, encR]
  refine aIf_mk (by have := hx.b; omega) ?_
  simp [hS.P]
  refine (split_spec hS x.b hx.b).go ?_
  rw [encSplit]
  simp [hS.P]
  refine (same02_spec hS _ (split_ok x.b) _ _).go ?_
  simp [hS.P]
  have hsl := split_len x.b hx.b
  have hxb := hx.b
  refine (sameRecs_spec hS _ _ (by omega) (by omega)).go ?_
  simp [hS.P, sameR_refl]
  refine (rexpect_spec hS x.b hx.b x.tags hx.tags).go ?_
  simp [hS.P, encPR, encR]
  rw [aC_draw (hc := by kernel_rfl)]
  simp [hS.P]
  refine aIf_mk (by omega) ?_
  simp [hS.P]
  have hxt := hx.tags
  refine aIf_mk ⟨fun a _ => by simp [encInt], by omega⟩ ?_
  simp [hS.P]
  refine (expect_spec hS x.b hx.b x.tags hx.tags).call ?_
  rw [encExpect]
  simp [hS.P]
  refine aIf_mk (chkH_reads (by simp)) ?_
  simp [hS.P]
  refine (same02_spec hS _ (expect_ok x.b x.tags) _ _).go ?_
  simp [hS.P]
  generalize hE : (expect x.b x.tags).1 = E
  have hEl : E.length ≤ 1073741824 := by rw [← hE]; have := expect_len x.b x.tags; omega
  generalize hK : (AH.put _ (H.nx + 1) _) = K
  have g0 : K.get H.nx = .row [encLists x] 4 0 := by rw [← hK]; simp [encLists, encBytes]
  have g1 : K.get (H.nx + 1) = .row [encPR (expect x.b x.tags).2] 2 0 := by rw [← hK]; simp [encPR, encR]
  have keeps : ∀ i, H.get i ≠ .free → K.get i = H.get i := by rw [← hK]; exact put_keeps (AH.free_add H 1) (put_keeps (by simp) (keeps_refl H))
  refine AWp.loop (S := Nat) (fun n => n ≤ E.length) (fun n => [(1, .ptr H.nx 0 0 0), (4, .ptr (H.nx + 1) 0 0 0), (9, .fsl (E.map encBytes)), (10, .fsl (E.map encBytes)), (11, .int .i64 n)]) (fun _ => K) (fun n => E.length - n) 0 (Nat.zero_le _) (Wk.regs (by simp [encBytes])) fun n hn => ?_
  refine aC_sound (lv := [4]) _ _ _ _ ?_
  simp [hS.P]
  refine aCond_dec (fun hlt => ?_) (fun hge => ?_)
  · obtain ⟨e, he⟩ : ∃ e, E[n]? = some e := ⟨E[n], List.getElem?_eq_getElem hlt⟩
    have e1 : IntKind.i64.wrap ((n : Int) + 1) = ((n + 1 : Nat) : Int) := by rw [wrap64 (by omega) (by omega)]; simp
    simp [hS.P]
    rw [aC_draw (hc := by kernel_rfl)]
    simp [hS.P, he, encBytes]
    exact ⟨n + 1, hlt, by omega, Wk.regs (by simp [e1, encBytes])⟩
  · have hnE : K.nx ≠ H.nx + 1 := fun h => by have := AH.lt_nx (AH.ne_free g1); omega
    simp [hS.P, g0, encLists]
    refine (runhex_spec hS x.s hx.s).go ?_
    simp [hS.P, g0, g1, encLists, encPR, encR]
    refine (unhex_spec hS x.s hx.s).go ?_
    simp [hS.P]
    rw [aC_draw (hc := by kernel_rfl)]
    simp [hS.P, g0, encLists, encBytes]
    refine aIf_mk (by omega) ?_
    simp [hS.P]
    refine (hex_spec hS x.b hx.b).call ?_
    simp [hS.P, g0, encLists, encBytes]
    refine (rhex_spec hS x.b hx.b).call ?_
    simp [hS.P]
    refine (same02_spec hS _ (unhexE_ok x.s) _ _).call ?_
    simp [hS.P, encBytes]
    refine aIf_mk (chkH_reads (by simp)) ?_
    simp [hS.P]
    exact Leave.data (put_keeps (AH.free_add H 1) keeps) (by simp) (by simp)
end Go.Proofs.YtdcopkocdmkiiaaDoor.Am
set_option linter.unusedVariables false
set_option linter.unusedSimpArgs false
namespace Go.Proofs.YtdcopkocdmkiiaaDoor.wireLists
open Go Go.Proofs.YtdcopkocdmkiiaaDoor.Am Go.RowKit Go.ChangeShapes Go.WideShapes Go.ChangeAt

theorem sum_ones {α : Type} : ∀ l : List α, (l.map fun _ => 1).sum = l.length
  | [] => rfl
  | _ :: l => by simp [sum_ones l]; omega
abbrev B {H : Type} (d : DataW H) : Nat := Rows.uptoBulk d
theorem decInt : Dec (@B) Tryd.prog 3 (fun n : Int => [encInt n]) 1 (fun _ => 1) (fun _ => True) :=
  (Dec.int bulk Tryd.underlying3 (by kernel_rfl)).map (fun n => n) (fun _ => rfl) (fun _ => Nat.le_refl _) (fun _ _ => trivial) (fun _ _ => rfl)
theorem decBytes : Dec (@B) Tryd.prog 23 (fun xs : List UInt8 => [encBytes xs]) 1 (fun xs => xs.length + 1) (fun _ => True) :=
  (Dec.slice bulk Tryd.underlying23 (by kernel_rfl) (Dec.u8 bulk Tryd.underlying5 (by kernel_rfl)) (by decide) encB (fun _ => rfl)).map (fun xs => xs) (fun _ => rfl) (fun xs => by simp [sum_ones]) (fun _ _ => trivial) (fun _ _ => rfl)
theorem decRec : Dec (@B) Tryd.prog 160 (fun r : RecD => [.int .i64 r.tag, encBytes r.body]) 2 (fun r => r.body.length + 3) (fun _ => True) :=
  (Dec.struct bulk Tryd.underlying160 (by kernel_rfl) (DecFs.cons decInt rfl (DecFs.cons decBytes rfl (DecFs.nil _)))).map (fun x => (⟨x.1, x.2.1⟩ : RecD)) (fun _ => rfl) (fun x => by simp; omega) (fun _ _ => trivial) (fun _ _ => rfl)
theorem decRecs : Dec (@B) Tryd.prog 22 (fun xs : List RecD => [.fsl (xs.map encRec)]) 1 (fun xs => (xs.map fun r => r.body.length + 3).sum + 1) (fun _ => True) :=
  (Dec.slice bulk Tryd.underlying22 (by kernel_rfl) decRec (by decide) encRec (fun _ => rfl)).map (fun xs => xs) (fun _ => rfl) (fun xs => Nat.le_refl _) (fun _ _ => trivial) (fun _ _ => rfl)
theorem decInts : Dec (@B) Tryd.prog 24 (fun xs : List Int => [.fsl (xs.map encInt)]) 1 (fun xs => xs.length + 1) (fun _ => True) :=
  (Dec.slice bulk Tryd.underlying24 (by kernel_rfl) decInt (by decide) encInt (fun _ => rfl)).map (fun xs => xs) (fun _ => rfl) (fun xs => by simp [sum_ones]) (fun _ _ => trivial) (fun _ _ => rfl)
theorem decStr : Dec (@B) Tryd.prog 9 (fun s : List UInt8 => [.str s]) 1 (fun s => s.length + 1) (fun _ => True) :=
  Dec.str bulk Tryd.underlying9 (by kernel_rfl)
theorem decLists : Dec (@B) Tryd.prog 26 (fun x : ListsD => [.fsl (x.recs.map encRec), encBytes x.b, .fsl (x.tags.map encInt), .str x.s]) 4
    (fun x => (x.recs.map fun r => r.body.length + 3).sum + x.b.length + x.tags.length + x.s.length + 5) (fun _ => True) :=
  (Dec.struct bulk Tryd.underlying26 (by kernel_rfl) (DecFs.cons decRecs rfl (DecFs.cons decBytes rfl (DecFs.cons decInts rfl (DecFs.cons decStr rfl (DecFs.nil _)))))).map (fun x => (⟨x.1, x.2.1, x.2.2.1, x.2.2.2.1⟩ : ListsD)) (fun _ => rfl) (fun x => by simp; omega) (fun _ _ => trivial) (fun _ _ => rfl)

theorem params : Tryd.f3.params.toList = [26] := by rw [Tryd.params3]
theorem readable : Tryd.prog.readableRec 26 = true := by kernel_rfl
theorem inTypes : 26 < Tryd.prog.types.size := of_decide_eq_true (by kernel_rfl)
theorem read : ∀ t ∈ Tryd.f3.params.toList, Tryd.prog.readableRec t = true ∧ t < Tryd.prog.types.size := by
  rw [params]; intro t ht; obtain rfl := List.mem_singleton.1 ht; exact ⟨readable, inTypes⟩
theorem size : Tryd.f3.params.size = 1 := by kernel_rfl
theorem fnEq (H : Type) (ds : List (DataW H)) (h : ds.length = 1) : Rows.wireListsSpec.fn H ds = { results := [.lit (.bool true)], args := ds } := by
  match ds, h with
  | [d], _ => rfl
theorem dec : DecA (@B) Tryd.prog Tryd.f3.params.toList (fun x : ListsD × Unit => [encLists x.1]) (fun x => (x.1.recs.map fun r => r.body.length + 3).sum + x.1.b.length + x.1.tags.length + x.1.s.length + 5 + 0) (fun _ => True ∧ True) := by
  rw [params]; exact DecA.agg decLists Tryd.underlying26 DecA.nil
theorem res : Tryd.f3.resultTypes = #[4] := by kernel_rfl
theorem spec (x : ListsD × Unit) (_ : True ∧ True) (hb : (x.1.recs.map fun r => r.body.length + 3).sum + x.1.b.length + x.1.tags.length + x.1.s.length + 5 + 0 ≤ 1048576) : ACalc ctx 3 [encLists x.1] (.bool true) :=
  wireLists_spec ctx_sent x.1 ⟨by omega, by omega, by omega, by omega⟩

theorem contract (H : Type) (enc : TypeId × Value → H) (W : World) (base : Nat) (args : Array Value) (ds gs : List (DataW H)) (before : List MemPlace)
    (hval : ∀ (j : Nat) t v, Tryd.f3.params[j]? = some t → args[j]? = some v → Value.okWide Tryd.prog W .any base t v)
    (hW : DataW.Whole enc Tryd.prog Tryd.f3.params.toList Rows.wireListsSpec.vars false W args.toList ds gs before) (hk : Rows.uptoSmall H (ds ++ gs) = true) (hL : laidMetH Tryd.prog laidL W) :
    Calls Tryd.prog 3 args W fun e W' => ∃ v, e = .returned v ∧ Rows.wireListsSpec.post enc Tryd.prog Tryd.f3 false true false false W args v W' := by
  have hs := bulk_small hk
  rw [List.map_append, List.sum_append] at hs
  have hm : (ds.map (@B H)).sum ≤ 1048576 := Nat.le_trans (Nat.le_add_right _ _) hs
  exact law_contract (X := ctx) (P := Tryd.prog) (base := base) (gs := gs) (before := before) rfl res Tryd.underlying4 laidOut read rfl (fun H ds h => fnEq H ds (h.trans size)) dec spec
    (by with_reducible exact hval) (by with_reducible exact hW) hm (sentOK_of hL)

end Go.Proofs.YtdcopkocdmkiiaaDoor.wireLists
