/- The logic and the contracts that the laws stand on, part 7. -/
import Derived.Test.YtndoembhbfiokaaGreatDoorAaf
import Derived.Laws.IdiomStrings
import Derived.Laws.BytesArg
/- Lengths, pieces, conversions, make. -/
set_option linter.unusedVariables false
set_option linter.unusedSimpArgs false
namespace Go.Proofs.YtndoembhbfiokaaGreatDoor.Am
open Go.RowKit

section
variable {X : Ctx} {N : Nat} {o : Oper} {r : Regs} {H : AH} {K : Post}

/-! ### len -/
def lenOf (d : TypeDesc) (x : AV) : Option Nat :=
  match d, x with
  | .string, .str l => some l.length
  | .slice _, .fsl xs => some xs.length
  | .slice _, .csl xs => some xs.length
  | .slice _, .sl _ _ _ len => some len
  | .array n _, _ => some n
  | _, _ => none
def aLen (X : Ctx) (t : TypeId) (x : AV) (K : Post) : Prop := ∃ d n, X.P.underlying t = some d ∧ lenOf d x = some n ∧ K (.int .i64 n) [] []
theorem aLen_sound {t : TypeId} {x : Operand} (ho : o.op = .call { callee := .builtin .len, args := #[x], argTypes := #[t] }) (h : aLen X t (r.ev x) K) : ∃ v rd wr, K v rd wr ∧ Local X N o r H v rd wr := by
  obtain ⟨d, n, hd, hn, hK⟩ := h
  refine ⟨_, _, _, hK, local_pure fun r' hr' H' μ ρ w0 a w hR => ?_⟩
  have hv := hR.ev x
  rw [hr' x (by simp [ho, Op.operands, Call.operands])] at hv
  refine ⟨.int .i64 n, ?_, .int _ _⟩
  have key : (Builtin.len_ #[t] o.type #[a.eval x]).run X.P w = .ok (goInt n) w := by
    unfold lenOf at hn
    split at hn <;> simp only [Option.some.injEq, reduceCtorEq] at hn
    · subst hn
      rename_i l hx
      rw [hx] at hv
      generalize a.eval x = c at hv
      cases hv with
      | str sb =>
        have es : sb.data.toList.length = sb.size := Array.length_toList
        rw [es]
        simp [Builtin.len_, run_underlying hd]
    · subst hn
      rename_i xs hx
      rw [hx] at hv
      generalize a.eval x = c at hv
      cases hv <;> simp [Builtin.len_, run_underlying hd]
    · subst hn
      rename_i xs hx
      rw [hx] at hv
      generalize a.eval x = c at hv
      cases hv <;> simp [Builtin.len_, run_underlying hd]
    · subst hn
      rename_i hx
      rw [hx] at hv
      generalize a.eval x = c at hv
      cases hv <;> simp [Builtin.len_, run_underlying hd]
    · subst hn
      simp [Builtin.len_, run_underlying hd]
  simp [execOp, ho, resolve, invoke, builtin, key, goInt]

/-! ### x[l:h] -/
def bnd (x : Option AV) (d : Int) : Option Int :=
  match x with
  | none => some d
  | some (.int _ j) => some j
  | _ => none
theorem bnd_run {P : Program} {μ : Mu} {ρ : Nat → Value} {L : LV} {w : World} {x : Option AV} {c : Option Value} (hx : ∀ v, x = some v → ∃ u, c = some u ∧ VRel μ ρ L w v u) (hn : x = none → c = none)
    {d j : Int} (h : bnd x d = some j) : (c = none ∧ j = d) ∨ ∃ k, c = some (.int k j) := by
  unfold bnd at h
  split at h
  · exact .inl ⟨hn rfl, (Option.some.inj h).symm⟩
  · obtain ⟨u, rfl, hu⟩ := hx _ rfl
    cases hu
    simp only [Option.some.injEq] at h
    subst h
    exact .inr ⟨_, rfl⟩
  · cases h

def aSlice (X : Ctx) (t : TypeId) (x : AV) (lo hi mx : Option AV) (K : Post) : Prop :=
  match x with
  | .str s => X.P.underlying t = some .string ∧ mx.isNone = true ∧ ∃ l h, bnd lo 0 = some l ∧ bnd hi s.length = some h ∧ 0 ≤ l ∧ l ≤ h ∧ h ≤ s.length ∧ K (.str ((s.drop l.toNat).take (h - l).toNat)) [] []
  | .fsl xs => ∃ e n by_ l h, slOf X.P t = some (e, n, by_) ∧ (∀ y ∈ xs, y.cells.length = n) ∧ bnd lo 0 = some l ∧ bnd hi xs.length = some h ∧ 0 ≤ l ∧ l ≤ h ∧ h ≤ xs.length ∧
      (match mx with
        | none => K (.fsl ((xs.drop l.toNat).take (h - l).toNat)) [] []
        | some m => hi.isSome = true ∧ bnd (some m) 0 = some h ∧ K (.csl ((xs.drop l.toNat).take (h - l).toNat)) [] [])
  | .sl id ver off len => ∃ e n by_ l h zs, slOf X.P t = some (e, n, by_) ∧ H id = .row zs n ver ∧ mx.isNone = true ∧ bnd lo 0 = some l ∧ bnd hi len = some h ∧ 0 ≤ l ∧ l ≤ h ∧ h ≤ len ∧ K (.sl id ver (off + l.toNat) (h - l).toNat) [id] []
  | .ptr id ver i off => lo = none ∧ hi = none ∧ mx = none ∧ ∃ n e xs sz y, arOf X.P t = some (n, e, 1) ∧ H.get id = .row xs sz ver ∧ xs[i]? = some y ∧ off + n ≤ y.cells.length ∧ 0 < n ∧ K (.asl id ver i off n) [id] []
  | _ => False

theorem sliceBounds_run {P : Program} {w : World} {b : Bool} {len cap : Nat} {cl ch cm : Option Value} {l h : Int} (h0 : 0 ≤ l) (h1 : l ≤ h) (h2 : h ≤ len) (hc : len ≤ cap)
    (hl : (cl = none ∧ l = 0) ∨ ∃ k, cl = some (.int k l)) (hh : (ch = none ∧ h = len) ∨ ∃ k, ch = some (.int k h)) (hm : cm = none ∨ (ch.isSome = true ∧ ∃ k, cm = some (.int k h))) :
    (Instr.sliceBounds b len cap cl ch cm).run P w = .ok (l.toNat, h.toNat, if cm.isSome then h.toNat else cap) w := by
  have e1 : (h.toNat : Int) = h := Int.toNat_of_nonneg (by omega)
  have hhc : h ≤ (cap : Int) := by omega
  rcases hm with rfl | ⟨hs, k, rfl⟩
  · rcases hl with ⟨rfl, rfl⟩ | ⟨kl, rfl⟩ <;> rcases hh with ⟨rfl, rfl⟩ | ⟨kh, rfl⟩ <;>
      simp [Instr.sliceBounds, run_sliceBound, h0, h1, h2, hhc, e1, Int.le_trans h0 h1]
  · rcases hh with ⟨rfl, rfl⟩ | ⟨kh, rfl⟩
    · simp at hs
    · rcases hl with ⟨rfl, rfl⟩ | ⟨kl, rfl⟩ <;>
        simp [Instr.sliceBounds, run_sliceBound, h0, h1, h2, hhc, e1, Int.le_trans h0 h1]

theorem fsl_sub {μ : Mu} {ρ : Nat → Value} {L : LV} {w : World} {xs : List AV} {c : Value} (hv : VRel μ ρ L w (.fsl xs) c) {n : Nat} (hn : ∀ y ∈ xs, y.cells.length = n) {l h : Nat} (h1 : l ≤ h) (h2 : h ≤ xs.length) :
    ∃ a cap, c = .slice a xs.length cap ∧ xs.length ≤ cap ∧ (∀ m, h ≤ m → m ≤ cap → VRel μ ρ L w (.fsl ((xs.drop l).take (h - l))) (.slice (if m = l then a else a.map (·.add (l * n))) (h - l) (m - l))) ∧
      VRel μ ρ L w (.csl ((xs.drop l).take (h - l))) (.slice (if h = l then a else a.map (·.add (l * n))) (h - l) (h - l)) := by
  have hlen : ((xs.drop l).take (h - l)).length = h - l := by simp; omega
  cases hv with
  | fsl0 a cap =>
    simp at h2
    subst h2
    obtain rfl : l = 0 := by omega
    exact ⟨a, cap, rfl, by simp, fun m _ _ => by simpa using VRel.fsl0 _ _, by simpa using VRel.csl0 _⟩
  | fsl _ b o sz cap f hL hb hcap hz hc hr =>
    refine ⟨_, cap, rfl, hcap, ?_⟩
    rcases Nat.eq_zero_or_pos (h - l) with h0 | hpos
    · rw [h0, List.take_zero]
      exact ⟨fun m _ _ => .fsl0 _ _, .csl0 _⟩
    · have hsz : sz = n := by rw [← hz 0 (by omega)]; exact hn _ (List.getElem_mem _)
      subst hsz
      have hz' : ∀ j (hj : j < ((xs.drop l).take (h - l)).length), ((((xs.drop l).take (h - l))[j]).cells).length = sz := fun j hj => by
        simp only [List.getElem_take, List.getElem_drop]; exact hz _ _
      have hc' : ∀ j, j < ((xs.drop l).take (h - l)).length → ∀ q, q < sz → w.cell? ⟨b, (o + l * sz) + j * sz + q, none⟩ = some (f (l + j) q) := fun j hj q hq => by
        rw [hlen] at hj
        have := hc (l + j) (by omega) q hq
        rw [Nat.add_mul] at this
        rw [show o + l * sz + j * sz + q = o + (l * sz + j * sz) + q by omega]; exact this
      have hr' : ∀ j (hj : j < ((xs.drop l).take (h - l)).length) q (hq : q < ((((xs.drop l).take (h - l))[j]).cells).length), VRel μ ρ L w (((((xs.drop l).take (h - l))[j]).cells)[q]) (f (l + j) q) := fun j hj q hq => by
        simp only [List.getElem_take, List.getElem_drop] at hq ⊢
        exact hr (l + j) (by rw [hlen] at hj; omega) q hq
      refine ⟨fun m hm1 hm2 => ?_, ?_⟩
      · have := VRel.fsl (μ := μ) (ρ := ρ) (L := L) (w := w) ((xs.drop l).take (h - l)) b (o + l * sz) sz (m - l) (fun j q => f (l + j) q) hL hb (by rw [hlen]; omega) hz' hc' hr'
        rw [if_neg (by omega)]
        simpa [hlen, Addr.add_lit] using this
      · have := VRel.csl (μ := μ) (ρ := ρ) (L := L) (w := w) ((xs.drop l).take (h - l)) b (o + l * sz) sz (fun j q => f (l + j) q) hL hb hz' hc' hr'
        rw [if_neg (by omega)]
        simpa [hlen, Addr.add_lit] using this

theorem aSlice_sound {t : TypeId} {x : Operand} {lo hi mx : Option Operand} (ho : o.op = .slice t x lo hi mx) (h : aSlice (H := H) X t (r.ev x) (lo.map r.ev) (hi.map r.ev) (mx.map r.ev) K) :
    ∃ v rd wr, K v rd wr ∧ Local X N o r H v rd wr := by
  have opn : ∀ (r' : Regs), (∀ z ∈ o.op.operands.toList, r'.ev z = r.ev z) → ∀ (H' : AH) μ ρ w0 a w, Rel X N μ ρ w0 r' H' a w →
      VRel μ ρ (Live μ H') w (r.ev x) (a.eval x) ∧ ∀ (q : Option Operand), (q = lo ∨ q = hi ∨ q = mx) →
        (∀ v, q.map r.ev = some v → ∃ u, q.map a.eval = some u ∧ VRel μ ρ (Live μ H') w v u) ∧ (q.map r.ev = none → q.map a.eval = none) := fun r' hr' H' μ ρ w0 a w hR => by
    have hm : ∀ z, (z = x ∨ lo = some z ∨ hi = some z ∨ mx = some z) → z ∈ o.op.operands.toList := fun z hz => by
      simp only [ho, Op.operands, Array.toList_append, List.mem_append]
      rcases hz with rfl | rfl | rfl | rfl <;> simp
    refine ⟨by rw [← hr' x (hm x (.inl rfl))]; exact hR.ev x, fun q hq => ⟨fun v hv => ?_, fun hn => by cases q <;> simp_all⟩⟩
    cases q with
    | none => simp at hv
    | some z =>
      simp only [Option.map_some, Option.some.injEq] at hv
      subst hv
      refine ⟨_, rfl, ?_⟩
      rw [← hr' z (hm z (by rcases hq with h | h | h <;> simp [← h]))]
      exact hR.ev z
  unfold aSlice at h
  split at h
  · rename_i s hx
    rw [hx] at opn
    obtain ⟨hu, hmx, l, hh, hl, hhi, h0, h1, h2, hK⟩ := h
    refine ⟨_, _, _, hK, local_pure fun r' hr' H' μ ρ w0 a w hR => ?_⟩
    obtain ⟨hv, hq⟩ := opn r' hr' H' μ ρ w0 a w hR
    generalize hcv : a.eval x = cv at hv
    cases hv with
    | str sb =>
      have hbl := bnd_run (P := X.P) (hq lo (.inl rfl)).1 (hq lo (.inl rfl)).2 hl
      have hbh := bnd_run (P := X.P) (hq hi (.inr (.inl rfl))).1 (hq hi (.inr (.inl rfl))).2 hhi
      have hmn : mx = none := by cases mx <;> simp_all
      subst hmn
      have es : sb.data.toList.length = sb.size := Array.length_toList
      rw [es] at hbh h2
      have hb := sliceBounds_run (P := X.P) (w := w) (b := false) (len := sb.size) (cap := sb.size) h0 h1 h2 (Nat.le_refl _) hbl hbh (.inl rfl)
      refine ⟨.string (sb.extract l.toNat hh.toNat), ?_, ?_⟩
      · simp [execOp, ho, Instr.sliceAt, run_underlying hu, Instr.slice, hcv, hb]
      · have e2 : (sb.extract l.toNat hh.toNat).data.toList = (sb.data.toList.drop l.toNat).take (hh - l).toNat := by
          rw [ByteArray.data_extract, Array.toList_extract, List.extract_eq_take_drop]
          congr 1; omega
        rw [← e2]; exact .str _
  · rename_i xs hx
    rw [hx] at opn
    obtain ⟨e, n, by_, l, hh, hs, hn, hl, hhi, h0, h1, h2, h⟩ := h
    obtain ⟨hu, inf, hinf, hsz, _⟩ := slOf_spec hs
    subst hsz
    have e3 : (hh - l).toNat = hh.toNat - l.toNat := by omega
    cases mx with
    | none =>
      simp only [Option.map_none] at h
      refine ⟨_, _, _, h, local_pure fun r' hr' H' μ ρ w0 a w hR => ?_⟩
      obtain ⟨hv, hq⟩ := opn r' hr' H' μ ρ w0 a w hR
      obtain ⟨ad, cap, hcv, hcap, hf, _⟩ := fsl_sub hv hn (l := l.toNat) (h := hh.toNat) (by omega) (by omega)
      have hbl := bnd_run (P := X.P) (hq lo (.inl rfl)).1 (hq lo (.inl rfl)).2 hl
      have hbh := bnd_run (P := X.P) (hq hi (.inr (.inl rfl))).1 (hq hi (.inr (.inl rfl))).2 hhi
      have hb := sliceBounds_run (P := X.P) (w := w) (b := true) (len := xs.length) (cap := cap) h0 h1 h2 hcap hbl hbh (.inl rfl)
      refine ⟨_, ?_, by rw [e3]; exact hf cap (by omega) (Nat.le_refl _)⟩
      simp [execOp, ho, Instr.sliceAt, run_underlying hu, Instr.slice, hcv, hb, sizeOf, typeInfo, hinf]
    | some m =>
      simp only [Option.map_some] at h
      obtain ⟨hhs, hm, hK⟩ := h
      refine ⟨_, _, _, hK, local_pure fun r' hr' H' μ ρ w0 a w hR => ?_⟩
      obtain ⟨hv, hq⟩ := opn r' hr' H' μ ρ w0 a w hR
      obtain ⟨ad, cap, hcv, hcap, _, hf⟩ := fsl_sub hv hn (l := l.toNat) (h := hh.toNat) (by omega) (by omega)
      have hbl := bnd_run (P := X.P) (hq lo (.inl rfl)).1 (hq lo (.inl rfl)).2 hl
      have hbh := bnd_run (P := X.P) (hq hi (.inr (.inl rfl))).1 (hq hi (.inr (.inl rfl))).2 hhi
      have hbm := bnd_run (P := X.P) (x := some (r.ev m)) (c := some (a.eval m)) (d := 0) (hq (some m) (.inr (.inr rfl))).1 (by simp) hm
      have hbm' : ∃ k, some (a.eval m) = some (.int k hh) := by rcases hbm with ⟨h, _⟩ | h; · cases h
                                                                · exact h
      have hhs' : (hi.map a.eval).isSome = true := by cases hi <;> simp_all
      have hb := sliceBounds_run (P := X.P) (w := w) (b := true) (len := xs.length) (cap := cap) (cm := some (a.eval m)) h0 h1 h2 hcap hbl hbh (.inr ⟨hhs', hbm'⟩)
      refine ⟨_, ?_, by rw [e3]; exact hf⟩
      simp [execOp, ho, Instr.sliceAt, run_underlying hu, Instr.slice, hcv, hb, sizeOf, typeInfo, hinf]
  · rename_i id ver off len hx
    rw [hx] at opn
    obtain ⟨e, n, by_, l, hh, zs, hs, hH, hmx, hl, hhi, h0, h1, h2, hK⟩ := h
    obtain ⟨hu, inf, hinf, hsz, _⟩ := slOf_spec hs
    subst hsz
    refine ⟨_, _, _, hK, by simp, fun r' H' hr' hH' => SemOp.same fun μ ρ w0 a w hR => ?_⟩
    obtain ⟨hv, hq⟩ := opn r' hr' H' μ ρ w0 a w hR
    have hHid : H' id = .row zs inf.size ver := by rw [hH' id (by simp), hH]
    have hbl := bnd_run (P := X.P) (hq lo (.inl rfl)).1 (hq lo (.inl rfl)).2 hl
    have hbh := bnd_run (P := X.P) (hq hi (.inr (.inl rfl))).1 (hq hi (.inr (.inl rfl))).2 hhi
    have hmn : mx = none := by cases mx <;> simp_all
    subst hmn
    generalize hcv : a.eval x = cv at hv
    cases hv with
    | sl0 _ _ _ ad =>
      obtain rfl : hh = 0 := by omega
      obtain rfl : l = 0 := by omega
      have hb := sliceBounds_run (P := X.P) (w := w) (b := true) (len := 0) (cap := 0) h0 h1 h2 (Nat.le_refl _) hbl hbh (.inl rfl)
      refine ⟨.slice ad 0 0, ?_, by simpa using VRel.sl0 _ _ _ _ (by show AH.get _ _ ≠ .free; rw [hHid]; simp)⟩
      have hb' : (Instr.sliceBounds true 0 0 (lo.map a.eval) (hi.map a.eval) none).run X.P w = .ok (0, 0, 0) w := by simpa using hb
      simp [execOp, ho, Instr.sliceAt, run_underlying hu, Instr.slice, hcv, hb', sizeOf, typeInfo, hinf]
    | sl _ _ _ _ b sz' cap e' n' hμ hlen hshp hcap =>
      obtain ⟨rfl, _⟩ := hR.world.row_at hHid hμ
      have hb := sliceBounds_run (P := X.P) (w := w) (b := true) (len := len) (cap := cap) h0 h1 h2 hlen hbl hbh (.inl rfl)
      refine ⟨.slice (if cap = l.toNat then some ⟨b, off * inf.size, none⟩ else some ⟨b, off * inf.size + l.toNat * inf.size, none⟩) (hh.toNat - l.toNat) (cap - l.toNat), ?_, ?_⟩
      · simp [execOp, ho, Instr.sliceAt, run_underlying hu, Instr.slice, hcv, hb, sizeOf, typeInfo, hinf, Addr.add_lit]
      · have e3 : (hh - l).toNat = hh.toNat - l.toNat := by omega
        rw [e3]
        by_cases hcl : cap = l.toNat
        · rw [if_pos hcl, show hh.toNat - l.toNat = 0 by omega, show cap - l.toNat = 0 by omega]
          exact .sl0 _ _ _ _ (by show AH.get _ _ ≠ .free; rw [hHid]; simp)
        · rw [if_neg hcl, ← Nat.add_mul]
          exact .sl id ver (off + l.toNat) _ b inf.size _ e' n' hμ (by omega) hshp (by rw [show off + l.toNat + (cap - l.toNat) = off + cap by omega]; exact hcap)
  · rename_i id ver i off hx
    rw [hx] at opn
    obtain ⟨hlo, hhi, hmx, n, e, xs, sz, y, har, hH, hy, hle, hn, hK⟩ := h
    obtain ⟨hu, hsz⟩ := arOf_spec har
    have e1 : lo = none := by cases lo <;> simp_all
    have e2 : hi = none := by cases hi <;> simp_all
    have e3 : mx = none := by cases mx <;> simp_all
    subst e1 e2 e3
    refine ⟨_, _, _, hK, by simp, fun r' H' hr' hH' => SemOp.same fun μ ρ w0 a w hR => ?_⟩
    obtain ⟨hv, _⟩ := opn r' hr' H' μ ρ w0 a w hR
    have hHid : H'.get id = .row xs sz ver := by rw [hH' id (by simp), hH]
    generalize hcv : a.eval x = cv at hv
    cases hv with
    | ptr _ _ _ _ b sz' hμ =>
      obtain ⟨rfl, _, _, _, _, _, _, _, hEl, _⟩ := hR.world.row_at hHid hμ
      obtain ⟨hi, rfl⟩ := List.getElem?_eq_some_iff.1 hy
      have hel := hEl i hi
      refine ⟨.slice (some ⟨b, i * sz' + off, none⟩) n n, ?_, .asl id ver i off n b sz' n hμ (Nat.le_refl _) (by omega)⟩
      have hne : ¬ n = 0 := by omega
      simp [execOp, ho, Instr.sliceAt, run_underlying hu, Instr.sureAddr, hcv, Instr.sliceBounds, run_szOf hsz, hne, Addr.add_lit]
  · exact h.elim
end
end Go.Proofs.YtndoembhbfiokaaGreatDoor.Am
/- Conversions, make. -/
set_option linter.unusedVariables false
set_option linter.unusedSimpArgs false
namespace Go.Proofs.YtndoembhbfiokaaGreatDoor.Am
open Go.RowKit

def encB (b : UInt8) : AV := .int .u8 b.toNat
def bytesOf : List AV → Option (List UInt8)
  | [] => some []
  | .int .u8 n :: r => if 0 ≤ n ∧ n < 256 then (bytesOf r).map (UInt8.ofNat n.toNat :: ·) else none
  | _ :: _ => none
theorem bytesOf_map (l : List UInt8) : bytesOf (l.map encB) = some l := by
  induction l with
  | nil => rfl
  | cons b l ih =>
    have hb := b.toNat_lt
    simp only [List.map_cons, encB, bytesOf]
    rw [if_pos ⟨by omega, by omega⟩, show l.map encB = l.map (fun b => AV.int .u8 b.toNat) from rfl] at *
    rw [show bytesOf (l.map fun b => AV.int .u8 ↑b.toNat) = some l from ih]
    simp
theorem bytesOf_eq : ∀ {ys : List AV} {l : List UInt8}, bytesOf ys = some l → ys = l.map encB
  | [], l, h => by simp [bytesOf] at h; subst h; rfl
  | y :: ys, l, h => by
    unfold bytesOf at h
    split at h
    · rename_i e; cases e
    · rename_i n r' e
      simp only [List.cons.injEq] at e
      obtain ⟨rfl, rfl⟩ := e
      split at h
      · rename_i hc
        simp only [Option.map_eq_some_iff] at h
        obtain ⟨l', h1, rfl⟩ := h
        rw [bytesOf_eq h1]
        simp only [List.map_cons, encB, List.cons.injEq, and_true, AV.int.injEq, true_and]
        have : n.toNat < 256 := by omega
        simp only [UInt8.toNat_ofNat', Nat.reducePow, Nat.mod_eq_of_lt this]
        omega
      · cases h
    · cases h

section
variable {X : Ctx} {N : Nat} {o : Oper} {r : Regs} {H : AH} {K : Post}

def aConv (X : Ctx) (lv : Bool) (src dst : TypeId) (x : AV) (H : AH) (K : Post) : Prop :=
  match x with
  | .int _ n => ∃ k, X.P.underlying dst = some (.int k) ∧ (X.P.underlying src).isSome = true ∧ K (.int k (k.wrap n)) [] []
  | .str l => X.P.underlying src = some .string ∧ ((X.P.underlying dst = some .string ∧ K (.str l) [] []) ∨
      (∃ e by_, slOf X.P dst = some (e, 1, by_) ∧ X.P.underlying e = some (.int .u8) ∧
        if lv = true then H.get H.nx = .free ∧ K (.sl H.nx 0 0 l.length) [H.nx] [(H.nx, .row (l.map encB) 1 0)] else K (.fsl (l.map encB)) [] []))
  | .sl id ver off len => (src ≠ dst ∧ ∃ e by_, slOf X.P src = some (e, 1, by_) ∧ X.P.underlying e = some (.int .u8) ∧ X.P.underlying dst = some .string ∧ aSrc x H fun ys rd => ∃ l, bytesOf ys = some l ∧ K (.str l) rd []) ∨
      (src = dst ∧ 0 < len ∧ ∃ e by_ zs, slOf X.P src = some (e, 1, by_) ∧ X.P.underlying e = some (.int .u8) ∧ H.get id = .row zs 1 ver ∧ K x [id] [(id, .row zs 1 ver)])
  | x => ∃ e by_, slOf X.P src = some (e, 1, by_) ∧ X.P.underlying e = some (.int .u8) ∧ X.P.underlying dst = some .string ∧ aSrc x H fun ys rd => ∃ l, bytesOf ys = some l ∧ K (.str l) rd []

theorem aConv_sound {lv : Bool} {src dst : TypeId} {x : Operand} (ho : o.op = .convert src dst x) (h : aConv X lv src dst (r.ev x) H K) : ∃ v rd wr, K v rd wr ∧ Local X N o r H v rd wr := by
  have opn : ∀ (r' : Regs), (∀ z ∈ o.op.operands.toList, r'.ev z = r.ev z) → ∀ (H' : AH) μ ρ w0 a w, Rel X N μ ρ w0 r' H' a w → VRel μ ρ (Live μ H') w (r.ev x) (a.eval x) := fun r' hr' H' μ ρ w0 a w hR => by
    rw [← hr' x (by simp [ho, Op.operands])]; exact hR.ev x
  have conv_str : (∃ e by_, slOf X.P src = some (e, 1, by_) ∧ X.P.underlying e = some (.int .u8) ∧ X.P.underlying dst = some .string ∧ aSrc (r.ev x) H fun ys rd => ∃ l, bytesOf ys = some l ∧ K (.str l) rd []) → ∃ v rd wr, K v rd wr ∧ Local X N o r H v rd wr := fun h => by
    obtain ⟨e, by_, hsl, he, hd, h⟩ := h
    obtain ⟨hu, inf, hinf, hsz, _⟩ := slOf_spec hsl
    obtain ⟨ys, rd, ⟨l, hl, hK⟩, hsrc⟩ := aSrc_spec h
    obtain rfl := bytesOf_eq hl
    refine ⟨_, _, _, hK, by simp, fun r' H' hr' hH' => SemOp.same fun μ ρ w0 a w hR => ?_⟩
    have hv := opn r' hr' H' μ ρ w0 a w hR
    obtain ⟨ad, cap, hc, _, hnews⟩ := hsrc H' hH' μ ρ w0 w _ hR.world hv 1 (fun y hy => by obtain ⟨b, _, rfl⟩ := List.mem_map.1 hy; rfl)
    refine ⟨.string ⟨l.toArray⟩, ?_, by simpa using VRel.str (μ := μ) (ρ := ρ) (L := Live μ H') (w := w) ⟨l.toArray⟩⟩
    have key : (convert src dst (a.eval x)).run X.P w = .ok (.string ⟨l.toArray⟩) w := by
      rw [hc]
      rcases Nat.eq_zero_or_pos l.length with h0 | hpos
      · obtain rfl := List.eq_nil_of_length_eq_zero h0
        cases ad with
        | none => exact run_convert_bytes_nil w src e hu he _ _ dst hd
        | some ad => simpa using run_convert_bytes_back (P := X.P) w src dst e ad cap [] hu he hd (fun j hj => by simp at hj)
      · obtain ⟨b, o', rfl, news, hnl, hnc, hE⟩ := hnews (by simpa using hpos)
        have := run_convert_bytes_back (P := X.P) w src dst e ⟨b, o', none⟩ cap l hu he hd (fun j hj => by
          obtain ⟨c, h1, h2⟩ := hE.2 j (encB l[j]) (by simp [hj]) 0 (encB l[j]) rfl
          rw [Nat.mul_one, Nat.add_zero, List.getElem?_toArray] at h1
          rw [hnc j c h1]
          cases h2; rfl)
        simpa using this
    simp [execOp, ho, key]
  unfold aConv at h
  split at h
  · rename_i k n hx
    rw [hx] at opn
    obtain ⟨k', hd, hs, hK⟩ := h
    refine ⟨_, _, _, hK, local_pure fun r' hr' H' μ ρ w0 a w hR => ?_⟩
    have hv := opn r' hr' H' μ ρ w0 a w hR
    generalize hcv : a.eval x = cv at hv
    cases hv
    obtain ⟨d, hd'⟩ := Option.isSome_iff_exists.mp hs
    exact ⟨.int k' (k'.wrap n), by simp [execOp, ho, hcv, convert, run_underlying hd', run_underlying hd, Conv.intToInt], .int _ _⟩
  · rename_i l hx
    rw [hx] at opn
    obtain ⟨hs, ⟨hd, hK⟩ | ⟨e, by_, hsl, he, h⟩⟩ := h
    · refine ⟨_, _, _, hK, local_pure fun r' hr' H' μ ρ w0 a w hR => ?_⟩
      have hv := opn r' hr' H' μ ρ w0 a w hR
      generalize hcv : a.eval x = cv at hv
      cases hv with
      | str sb => exact ⟨.string sb, by simp [execOp, ho, hcv, convert, run_underlying hs, run_underlying hd], .str _⟩
    · obtain ⟨hu, inf, hinf, hsz, _⟩ := slOf_spec hsl
      have hrun : ∀ (a : Act) (w : World) (sb : ByteArray), a.eval x = .string sb → ∃ C cap fz, (execOp a.eval o).run X.P w = .ok (.value (.slice (some ⟨w.heap.size, 0, none⟩) sb.size cap)) (w.drew.alloc (.cells C e fz)) ∧
          sb.size ≤ cap ∧ cap ≤ C.size ∧ FzOK fz C.size ∧ ∀ μ ρ L w', ERel μ ρ L w' 1 (sb.data.toList.map encB) C := by
        intro a w sb hcv
        have h1 := run_bytes_of_string (P := X.P) w src dst e sb hs hu he
        refine ⟨_, _, _, by simp [execOp, ho, hcv, h1]; rfl, grownCap_ge w sb.size 0 e, ?_, .inr (Nat.le_refl _), fun μ ρ L w' => ⟨fun j y hy => ?_, fun j y hy q v hv => ?_⟩⟩
        · have hge := grownCap_ge w sb.size 0 e
          have : sb.data.size = sb.size := rfl
          simp [bytesRow, this]; omega
        · simp only [List.getElem?_map, Option.map_eq_some_iff] at hy
          obtain ⟨b, _, rfl⟩ := hy; rfl
        · simp only [List.getElem?_map, Option.map_eq_some_iff] at hy
          obtain ⟨b, hb, rfl⟩ := hy
          obtain ⟨hj, hb'⟩ := List.getElem?_eq_some_iff.1 hb
          simp only [AV.cells, encB] at hv
          have hq : q = 0 := by have := (List.getElem?_eq_some_iff.1 hv).1; simp at this; omega
          subst hq
          simp at hv; subst hv
          have hjs : j < sb.data.size := by simpa using hj
          refine ⟨_, by rw [Nat.mul_one, Nat.add_zero]; exact bytesRow_at sb _ j hjs, ?_⟩
          have : sb.data[j] = b := by rw [← hb']; simp
          rw [this]; exact .int _ _
      have hbw : ∀ (w : World) o, Below w.heap.size w (w.drew.alloc o) := fun w o => ((Below.refl _ w).drew).alloc (by simp) o
      by_cases hl : lv = true
      · rw [if_pos hl] at h
        refine ⟨_, _, _, h.2, by simp, fun r' H' hr' hH' μ ρ w0 a w hR => ?_⟩
        have hv := opn r' hr' H' μ ρ w0 a w hR
        generalize hcv : a.eval x = cv at hv
        cases hv with
        | str sb =>
          obtain ⟨C, cap, fz, hex, h1, h2, h3, hE⟩ := hrun a w sb hcv
          have hh := heap_alloc_new w.drew (.cells C e fz)
          have es : sb.data.toList.length = sb.size := Array.length_toList
          obtain ⟨μ', hx, hW', hμ⟩ := fresh_row hR.world (id := H.nx) (by rw [hH' _ (by simp), h.1]) (hbw w _) (b := w.heap.size) (C := C) (e := e) (fz := fz) (Nat.le_refl _) hh h3 (xs := sb.data.toList.map encB) (sz := 1) (by simp; have : sb.data.size = sb.size := rfl; omega) (hE _ _ _ _)
          refine ⟨_, _, _, μ', hex, .inl rfl, hx, hW', ?_⟩
          have := VRel.sl (μ := μ') (ρ := ρ) (L := Live μ' (H'.upd [(H.nx, .row (sb.data.toList.map encB) 1 0)])) (w := w.drew.alloc (.cells C e fz)) H.nx 0 0 sb.size w.heap.size 1 cap e C.size hμ h1 (by simp only [World.shape?]; rw [show w.heap.size = w.drew.heap.size from rfl, hh]) (by simpa using h2)
          rw [es]; simpa using this
      · rw [if_neg hl] at h
        refine ⟨_, _, _, h, by simp, fun r' H' hr' hH' μ ρ w0 a w hR => ?_⟩
        have hv := opn r' hr' H' μ ρ w0 a w hR
        generalize hcv : a.eval x = cv at hv
        cases hv with
        | str sb =>
          obtain ⟨C, cap, fz, hex, h1, h2, h3, hE⟩ := hrun a w sb hcv
          have hh := heap_alloc_new w.drew (.cells C e fz)
          obtain ⟨hx, hW'⟩ := hR.world.grow (hbw w (.cells C e fz))
          refine ⟨_, _, _, μ, hex, .inl rfl, hx, hW', ?_⟩
          have es : sb.data.toList.length = sb.size := Array.length_toList
          have := (vrel_fresh hR.world (hbw w (.cells C e fz)) (o := 0) (b := w.heap.size) (Nat.le_refl _) hh (hE _ _ _ _)).2 cap (by rw [List.length_map, es]; exact h1)
          rw [List.length_map, es] at this
          exact this
  · rename_i id ver off len hx
    rcases h with ⟨_, h⟩ | ⟨rfl, hlen, e, by_, zs, hsl, he, hH, hK⟩
    · exact conv_str h
    · obtain ⟨hu, inf, hinf, hsz, _⟩ := slOf_spec hsl
      refine ⟨_, _, _, hK, by simp, fun r' H' hr' hH' μ ρ w0 a w hR => ?_⟩
      have hv := opn r' hr' H' μ ρ w0 a w hR
      have hHid : H'.get id = .row zs 1 ver := by rw [hH' id (by simp), hH]
      generalize hcv : a.eval x = cv at hv
      have hv0 := hv
      rw [hx] at hv
      cases hv with
      | sl0 => omega
      | sl _ _ _ _ b sz' cap e' n' hμ hle hs hcap =>
        obtain ⟨rfl, hge, C, et, fz, hC, hfz, hCl, hEl, hEr⟩ := hR.world.row_at hHid hμ
        have hshp : w.shape? b = some (et, C.size) := by simp [World.shape?, hC]
        let w' : World := w.freeze ⟨b, C.size, none⟩ 1
        have hlt : b < w.heap.size := (Array.getElem?_eq_some_iff.1 hC).1
        have hD : ∃ fz', w'.heap[b]? = some (.cells C et fz') ∧ FzOK fz' C.size := by
          obtain ⟨lo, hi⟩ := fz
          refine ⟨if lo == hi then (C.size, C.size + 1) else (min lo C.size, max hi (C.size + 1)), ?_, ?_⟩
          · simp only [w', World.freeze]
            rw [if_neg (by decide)]
            show (w.heap.modify b _)[b]? = _
            rw [Array.getElem?_modify, if_pos rfl, hC]
            rfl
          · split
            · exact .inr (Nat.le_refl _)
            · rename_i hne
              rcases hfz with h | h
              · simp at hne; exact absurd h hne
              · exact .inr (by simp only; simp only at h; omega)
        obtain ⟨fz', hD, hfz'⟩ := hD
        have hother : ∀ k, k ≠ b → w'.heap[k]? = w.heap[k]? := fun k hk => by simp [w', World.freeze, Array.getElem?_modify, Ne.symm hk]
        have hrest : w'.os = w.os ∧ w'.tape = w.tape ∧ w'.output = w.output ∧ w'.heap.size = w.heap.size := ⟨by simp [w', World.freeze], by simp [w', World.freeze], by simp [w', World.freeze], by simp [w', World.freeze]⟩
        obtain ⟨hxx, hW'⟩ := setRow' hR.world hHid hμ hrest hother hC hD rfl hfz' (by simpa using hCl) ⟨fun j y hy => by obtain ⟨hj, rfl⟩ := List.getElem?_eq_some_iff.1 hy; exact hEl j hj, fun j y hy q v hv => by
          obtain ⟨hj, rfl⟩ := List.getElem?_eq_some_iff.1 hy
          obtain ⟨hq, rfl⟩ := List.getElem?_eq_some_iff.1 hv
          exact hEr j hj q hq⟩
        refine ⟨_, _, w', μ, ?_, .inl rfl, hxx, hW', hv0.mono hxx⟩
        have hr : (convert src src (.slice (some ⟨b, off * 1, none⟩) len cap)).run X.P w = .ok (.slice (some ⟨b, off * 1, none⟩) len cap) w' := by
          simp [convert, run_underlying hu, run_underlying he, markStringish, hshp]
          rfl
        rw [Nat.mul_one] at hr hcv ⊢
        simp [execOp, ho, hcv, hr]
  · exact conv_str h

/-! ### make -/
def mkOf (P : Program) (t : TypeId) : Option (TypeId × Nat × Nat × AV) :=
  match P.underlying t with
  | some (.slice e) => (P.info? e).bind fun i => i.zero.bind fun z => if z.cells.size = i.size ∧ 0 < i.size then some (e, i.size, i.bytes, avOf z) else none
  | _ => none

def aMake (X : Ctx) (lv : Bool) (t : TypeId) (l c : AV) (H : AH) (K : Post) : Prop :=
  match l, c with
  | .int _ l, .int _ c => ∃ e n by_ z, mkOf X.P t = some (e, n, by_, z) ∧ z.good = true ∧ 0 ≤ l ∧ l ≤ c ∧ (by_ : Int) * c ≤ 281474976710656 ∧ c ≤ 9223372036854775807 ∧
      if lv = true then H.get H.nx = .free ∧ K (.sl H.nx 0 0 l.toNat) [H.nx] [(H.nx, .row (List.replicate l.toNat z) n 0)] else K (.fsl (List.replicate l.toNat z)) [] []
  | _, _ => False

theorem madeCells_at (z : Array Value) (m j q : Nat) (hq : q < z.size) (h : j * z.size + q < m) : (madeCells z m)[j * z.size + q]? = z[q]? := by
  unfold madeCells
  simp only [Array.getElem?_map]
  rw [Array.getElem?_range, if_pos h]
  simp only [Option.map_some]
  rw [Nat.mul_comm, Nat.mul_add_mod, Nat.mod_eq_of_lt hq]
  rw [getElem!_pos z q hq, Array.getElem?_eq_getElem hq]

theorem aMake_sound {lv : Bool} {t : TypeId} {l c : Operand} (ho : o.op = .makeSlice t l c) (h : aMake X lv t (r.ev l) (r.ev c) H K) : ∃ v rd wr, K v rd wr ∧ Local X N o r H v rd wr := by
  have opn : ∀ (r' : Regs), (∀ z ∈ o.op.operands.toList, r'.ev z = r.ev z) → ∀ (H' : AH) μ ρ w0 a w, Rel X N μ ρ w0 r' H' a w →
      VRel μ ρ (Live μ H') w (r.ev l) (a.eval l) ∧ VRel μ ρ (Live μ H') w (r.ev c) (a.eval c) := fun r' hr' H' μ ρ w0 a w hR => by
    rw [← hr' l (by simp [ho, Op.operands]), ← hr' c (by simp [ho, Op.operands])]; exact ⟨hR.ev l, hR.ev c⟩
  unfold aMake at h
  split at h
  · rename_i kl li kc ci hl hc
    rw [hl, hc] at opn
    obtain ⟨e, n, by_, z, hmk, hg, h0, h1, hby, h63, h⟩ := h
    unfold mkOf at hmk
    split at hmk
    · rename_i e' hu
      simp only [Option.bind_eq_some_iff] at hmk
      obtain ⟨inf, hinf, zc, hz, hmk⟩ := hmk
      split at hmk
      · rename_i hcond
        simp only [Option.some.injEq, Prod.mk.injEq] at hmk
        obtain ⟨rfl, rfl, rfl, rfl⟩ := hmk
        have hrun : ∀ (a : Act) (w : World), a.eval l = .int kl li → a.eval c = .int kc ci → (execOp a.eval o).run X.P w = .ok (.value (.slice (some ⟨w.heap.size, 0, none⟩) li.toNat ci.toNat)) (w.alloc (.cells (madeCells zc.cells (ci.toNat * inf.size)) e')) := by
          intro a w e1 e2
          have := run_make (P := X.P) w t e' inf zc hu hinf hz kl kc li ci h0 h1 hby h63
          simp [execOp, ho, e1, e2, this]
        have hle : li.toNat ≤ ci.toNat := by omega
        have hE : ∀ μ ρ L w, ERel μ ρ L w inf.size (List.replicate li.toNat (avOf zc)) (madeCells zc.cells (ci.toNat * inf.size)) := fun μ ρ L w => by
          have hcr := (avOf_rel μ ρ L w zc).crel hg
          have hzl : (avOf zc).cells.length = inf.size := by rw [← hcr.1, hcond.1]
          refine ⟨fun j y hy => ?_, fun j y hy q v hv => ?_⟩
          · rw [List.getElem?_replicate] at hy
            split at hy
            · rw [← Option.some.inj hy]; exact hzl
            · cases hy
          · rw [List.getElem?_replicate] at hy
            split at hy
            · rename_i hj
              obtain rfl := Option.some.inj hy
              obtain ⟨u, hu1, hu2⟩ := hcr.2 q v hv
              have hq : q < inf.size := by have := (List.getElem?_eq_some_iff.1 hv).1; omega
              have hlt : j * inf.size + q < ci.toNat * inf.size := by
                have : (j + 1) * inf.size ≤ ci.toNat * inf.size := Nat.mul_le_mul_right _ (by omega)
                rw [Nat.add_mul, Nat.one_mul] at this; omega
              refine ⟨u, ?_, hu2⟩
              have := madeCells_at zc.cells (ci.toNat * inf.size) j q (by rw [hcond.1]; exact hq) (by rw [hcond.1]; exact hlt)
              rw [hcond.1] at this
              rw [this]; exact hu1
            · cases hy
        by_cases hlv : lv = true
        · rw [if_pos hlv] at h
          refine ⟨_, _, _, h.2, by simp, fun r' H' hr' hH' μ ρ w0 a w hR => ?_⟩
          obtain ⟨v1, v2⟩ := opn r' hr' H' μ ρ w0 a w hR
          generalize e1 : a.eval l = c1 at v1
          generalize e2 : a.eval c = c2 at v2
          cases v1; cases v2
          have hbw := below_alloc w (.cells (madeCells zc.cells (ci.toNat * inf.size)) e')
          obtain ⟨μ', hx, hW', hμ⟩ := fresh_row hR.world (id := H.nx) (by rw [hH' _ (by simp), h.1]) hbw (b := w.heap.size) (Nat.le_refl _) (heap_alloc_new w _) (by simp) (xs := List.replicate li.toNat (avOf zc)) (sz := inf.size)
            (by simp only [List.length_replicate, size_madeCells]; exact Nat.mul_le_mul_right _ hle) (hE _ _ _ _)
          refine ⟨_, _, _, μ', hrun a w e1 e2, .inl rfl, hx, hW', ?_⟩
          have := VRel.sl (μ := μ') (ρ := ρ) (L := Live μ' (H'.upd [(H.nx, .row (List.replicate li.toNat (avOf zc)) inf.size 0)])) (w := w.alloc (.cells (madeCells zc.cells (ci.toNat * inf.size)) e')) H.nx 0 0 li.toNat w.heap.size inf.size ci.toNat e' (ci.toNat * inf.size) hμ hle
            (by rw [shape_alloc, size_madeCells]) (by rw [Nat.zero_add]; exact Nat.le_refl _)
          simpa using this
        · rw [if_neg hlv] at h
          refine ⟨_, _, _, h, by simp, fun r' H' hr' hH' μ ρ w0 a w hR => ?_⟩
          obtain ⟨v1, v2⟩ := opn r' hr' H' μ ρ w0 a w hR
          generalize e1 : a.eval l = c1 at v1
          generalize e2 : a.eval c = c2 at v2
          cases v1; cases v2
          have hbw := below_alloc w (.cells (madeCells zc.cells (ci.toNat * inf.size)) e')
          obtain ⟨hx, hW'⟩ := hR.world.grow hbw
          refine ⟨_, _, _, μ, hrun a w e1 e2, .inl rfl, hx, hW', ?_⟩
          have := (vrel_fresh hR.world hbw (o := 0) (b := w.heap.size) (Nat.le_refl _) (heap_alloc_new w _) (hE _ _ _ _)).2 ci.toNat (by simpa using hle)
          simpa using this
      · cases hmk
    · cases hmk
  · exact h.elim
end
end Go.Proofs.YtndoembhbfiokaaGreatDoor.Am
/- More operations: a slice of an array, copy out of a string, min and max, maps. -/
set_option linter.unusedVariables false
set_option linter.unusedSimpArgs false
namespace Go.Proofs.YtndoembhbfiokaaGreatDoor.Am
open Go.RowKit

/-- Cells are written over a part of a row's element. -/
theorem store_row {X : Ctx} {μ : Mu} {ρ : Nat → Value} {w0 w : World} {H : AH} (hW : WRel X μ ρ w0 H w) {id ver sz b sz' i off : Nat} {xs ys : List AV} {vs : List Value} {e e' : AV} (hH : H.get id = .row xs sz ver) (hμ : μ id ver = some (b, sz'))
    (he : xs[i]? = some e) (hy : CRel μ ρ (Live μ H) w ys vs.toArray) (hone : ys.all AV.one = true) (hle : off + ys.length ≤ e.cells.length) (he' : e'.cells = e.cells.take off ++ ys ++ e.cells.drop (off + ys.length)) :
    ∃ w', (storeCells ⟨b, i * sz' + off, none⟩ vs).run X.P w = .ok () w' ∧ Ext μ (Live μ H) w μ (Live μ (H.put id (.row (xs.set i e') sz ver))) w' ∧ WRel X μ ρ w0 (H.put id (.row (xs.set i e') sz ver)) w' := by
  obtain ⟨rfl, hge, C, et, fz, hC, hfz, hCl, hEl, hEr⟩ := hW.row_at hH hμ
  obtain ⟨hi, rfl⟩ := List.getElem?_eq_some_iff.1 he
  have hel : (xs[i].cells).length = sz' := hEl i hi
  have hcsz : vs.length = ys.length := by simpa using hy.1
  have hbound : i * sz' + sz' ≤ C.size := by
    have : (i + 1) * sz' ≤ xs.length * sz' := Nat.mul_le_mul_right _ hi
    rw [Nat.add_mul, Nat.one_mul] at this
    omega
  have hones : ∀ v ∈ vs, v.oneCell' = true := by
    intro v hv
    obtain ⟨j, hj⟩ := List.getElem?_of_mem hv
    have hjl' : j < ys.length := by
      have := (List.getElem?_eq_some_iff.1 hj).1
      omega
    obtain ⟨c, hc1, hc2⟩ := hy.2 j _ (List.getElem?_eq_getElem hjl')
    have : c = v := by
      simp only [List.getElem?_toArray] at hc1
      rw [hc1] at hj; exact Option.some.inj hj
    subst this
    exact (hc2.one (List.all_eq_true.1 hone _ (List.getElem_mem hjl'))).1
  have hcell : ∀ j, j < vs.length → (w.cell? ⟨b, (i * sz' + off) + 0 + j, none⟩).isSome = true := fun j hj => by
    have : i * sz' + off + j < C.size := by omega
    simp [World.cell?, hC, this]
  have hfroz : ∀ j, j < vs.length → w.frozen? ⟨b, (i * sz' + off) + 0 + j, none⟩ = false := fun j hj => by
    have := hfz.at (i * sz' + off + 0 + j) (by omega)
    exact not_frozen hC this
  have hst := run_storeCells_cells (P := X.P) b (i * sz' + off) vs 0 w hcell hfroz hones
  rw [Nat.add_zero] at hst
  obtain ⟨D, hD, hDs, hDk⟩ := setCells_heap b vs (i * sz' + off) w C et fz hC
  have hE : ERel μ ρ (Live μ H) w sz' (xs.set i e') D := by
    have hscl : (e'.cells).length = sz' := by rw [he']; simp; omega
    refine ⟨fun j y hy => ?_, fun j y hy' q v hv => ?_⟩
    · rw [List.getElem?_set] at hy
      split at hy
      · rename_i hij
        rw [← Option.some.inj hy]; exact hscl
      · obtain ⟨hj, rfl⟩ := List.getElem?_eq_some_iff.1 hy
        exact hEl j hj
    · rw [List.getElem?_set] at hy'
      rw [hDk, hcsz]
      split at hy'
      · rename_i hij
        subst hij
        rw [← Option.some.inj hy', he', splice_get _ _ _ _ (by omega)] at hv
        split at hv
        · rename_i hq
          obtain ⟨c, h1, h2⟩ := hy.2 _ _ hv
          refine ⟨c, ?_, h2⟩
          simp only [List.getElem?_toArray] at h1
          rw [if_pos (by omega), show i * sz' + q - (i * sz' + off) = q - off by omega]
          exact h1
        · rename_i hq
          obtain ⟨hq1, rfl⟩ := List.getElem?_eq_some_iff.1 hv
          obtain ⟨c, h1, h2⟩ := hEr i hi q hq1
          exact ⟨c, by rw [if_neg (by omega)]; exact h1, h2⟩
      · rename_i hij
        obtain ⟨hj, rfl⟩ := List.getElem?_eq_some_iff.1 hy'
        obtain ⟨hq1, rfl⟩ := List.getElem?_eq_some_iff.1 hv
        obtain ⟨c, h1, h2⟩ := hEr j hj q hq1
        refine ⟨c, ?_, h2⟩
        rw [if_neg ?_]
        · exact h1
        · have hq2 := hEl j hj
          rcases Nat.lt_or_gt_of_ne hij with hlt | hlt
          · have : (i + 1) * sz' ≤ j * sz' := Nat.mul_le_mul_right _ hlt
            rw [Nat.add_mul, Nat.one_mul] at this
            omega
          · have : (j + 1) * sz' ≤ i * sz' := Nat.mul_le_mul_right _ hlt
            rw [Nat.add_mul, Nat.one_mul] at this
            omega
  obtain ⟨hx, hW'⟩ := setRow hW hH hμ (setCells_rest b _ _ w) (fun k hk => setCells_other b _ _ w k hk) hC hD hDs hfz (by simpa using hCl) hE
  exact ⟨_, hst, hx, hW'⟩

section
variable {X : Ctx} {N : Nat} {o : Oper} {r : Regs} {H : AH} {K : Post}

/-! ### copy, out of a string into a part of a row -/
def aCopy (X : Ctx) (t s : TypeId) (d x : AV) (H : AH) (K : Post) : Prop :=
  match d, x with
  | .asl id ver i off len, .str l => ∃ e by_ xs sz es, slOf X.P t = some (e, 1, by_) ∧ H.get id = .row xs sz ver ∧ xs[i]? = some (.agg es) ∧ off + len ≤ es.length ∧
      K (.int .i64 (Nat.min l.length len)) [id] [(id, .row (xs.set i (.agg (es.take off ++ (l.take len).map encB ++ es.drop (off + (l.take len).length)))) sz ver)]
  | _, _ => False
theorem aCopy_sound {t s : TypeId} {d x : Operand} (ho : o.op = .call { callee := .builtin .copy, args := #[d, x], argTypes := #[t, s] }) (h : aCopy X t s (r.ev d) (r.ev x) H K) : ∃ v rd wr, K v rd wr ∧ Local X N o r H v rd wr := by
  unfold aCopy at h
  split at h
  · rename_i id ver i off len l hd hx
    obtain ⟨e, by_, xs, sz, es, hsl, hH, hy, hle, hK⟩ := h
    obtain ⟨hu, inf, hinf, hsz, _⟩ := slOf_spec hsl
    refine ⟨_, _, _, hK, by simp, fun r' H' hr' hH' μ ρ w0 a w hR => ?_⟩
    have hvd := hR.ev d
    have hvx := hR.ev x
    rw [hr' d (by simp [ho, Op.operands, Call.operands]), hd] at hvd
    rw [hr' x (by simp [ho, Op.operands, Call.operands]), hx] at hvx
    have hHid : H'.get id = .row xs sz ver := by rw [hH' id (by simp), hH]
    generalize hcd : a.eval d = cd at hvd
    generalize hcx : a.eval x = cx at hvx
    cases hvd with
    | asl _ _ _ _ _ b sz' cap hμ hlen hcap =>
      cases hvx with
      | str sb =>
        have es1 : sb.data.toList.length = sb.size := Array.length_toList
        have hvs : List.take (sb.size.min len) (Array.map (fun b : UInt8 => Value.int IntKind.u8 (b.toNat : Int)) sb.data).toList = (sb.data.toList.take len).map fun b => Value.int .u8 (b.toNat : Int) := by
          rw [Array.toList_map, ← List.map_take]
          congr 1
          rcases Nat.le_total sb.size len with h | h
          · rw [show sb.size.min len = sb.size from Nat.min_eq_left h, List.take_of_length_le (by omega), List.take_of_length_le (by omega)]
          · rw [show sb.size.min len = len from Nat.min_eq_right h]
        have hcr : CRel μ ρ (Live μ H') w ((sb.data.toList.take len).map encB) ((sb.data.toList.take len).map fun b => Value.int .u8 (b.toNat : Int)).toArray :=
          ⟨by simp, fun j v hj => by
            rw [List.getElem?_map, Option.map_eq_some_iff] at hj
            obtain ⟨b, hb, rfl⟩ := hj
            exact ⟨.int .u8 b.toNat, by simp only [List.getElem?_toArray, List.getElem?_map, hb, Option.map_some], .int _ _⟩⟩
        obtain ⟨w', hst, hxx, hW'⟩ := store_row hR.world (off := off) (ys := (sb.data.toList.take len).map encB) (e := .agg es) (e' := .agg (es.take off ++ (sb.data.toList.take len).map encB ++ es.drop (off + (sb.data.toList.take len).length))) hHid hμ hy hcr
          (List.all_eq_true.2 fun y hy => by obtain ⟨b, _, rfl⟩ := List.mem_map.1 hy; rfl) (by simp [AV.cells]; omega) (by simp [AV.cells])
        refine ⟨_, .int .i64 (Nat.min sb.size len), w', μ, ?_, .inl rfl, hxx, hW', by rw [es1]; exact .int _ _⟩
        have key : (Builtin.copy_ #[t, s] o.type #[.slice (some ⟨b, i * sz' + off, none⟩) len cap, .string sb]).run X.P w = .ok (goInt (Nat.min sb.size len)) w' := by
          simp only [Builtin.copy_, List.getElem?_toArray]
          simp [run_underlying hu, Builtin.lenOf, sizeOf, typeInfo, hinf, Builtin.firstCells]
          rw [← Array.toList_map, hvs, hst]
          simp
        simp [execOp, ho, resolve, invoke, builtin, hcd, hcx, key, goInt]
  · exact h.elim

/-! ### min, max -/
def aMinMax (mx : Bool) (x y : AV) (K : Post) : Prop :=
  match x, y with
  | .int k a, .int _ b => K (.int k (if mx = true then (if a < b then b else a) else (if b < a then b else a))) [] []
  | _, _ => False
theorem aMin_sound {ts : Array TypeId} {x y : Operand} (ho : o.op = .call { callee := .builtin .min, args := #[x, y], argTypes := ts }) (h : aMinMax false (r.ev x) (r.ev y) K) : ∃ v rd wr, K v rd wr ∧ Local X N o r H v rd wr := by
  unfold aMinMax at h
  split at h
  · rename_i k a k' b hx hy
    refine ⟨_, _, _, h, local_pure fun r' hr' H' μ ρ w0 ac w hR => ?_⟩
    have h1 := hR.ev x
    have h2 := hR.ev y
    rw [hr' x (by simp [ho, Op.operands, Call.operands]), hx] at h1
    rw [hr' y (by simp [ho, Op.operands, Call.operands]), hy] at h2
    generalize hcx : ac.eval x = cx at h1
    generalize hcy : ac.eval y = cy at h2
    cases h1; cases h2
    exact ⟨_, by simp [execOp, ho, resolve, invoke, builtin, hcx, hcy, Builtin.min_, Builtin.min2], .int _ _⟩
  · exact h.elim
theorem aMax_sound {ts : Array TypeId} {x y : Operand} (ho : o.op = .call { callee := .builtin .max, args := #[x, y], argTypes := ts }) (h : aMinMax true (r.ev x) (r.ev y) K) : ∃ v rd wr, K v rd wr ∧ Local X N o r H v rd wr := by
  unfold aMinMax at h
  split at h
  · rename_i k a k' b hx hy
    refine ⟨_, _, _, h, local_pure fun r' hr' H' μ ρ w0 ac w hR => ?_⟩
    have h1 := hR.ev x
    have h2 := hR.ev y
    rw [hr' x (by simp [ho, Op.operands, Call.operands]), hx] at h1
    rw [hr' y (by simp [ho, Op.operands, Call.operands]), hy] at h2
    generalize hcx : ac.eval x = cx at h1
    generalize hcy : ac.eval y = cy at h2
    cases h1; cases h2
    exact ⟨_, by simp [execOp, ho, resolve, invoke, builtin, hcx, hcy, Builtin.max_, Builtin.max2], .int _ _⟩
  · exact h.elim
end
end Go.Proofs.YtndoembhbfiokaaGreatDoor.Am
