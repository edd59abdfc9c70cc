/- The logic and the contracts that the laws stand on, part 14. -/
import Derived.Test.YtndoembhbfiokaaGreatDoorAam
import Derived.Carry
import Derived.ChangeSame
import Derived.LaidLaws
import Derived.Deep.DeepHandedRow
/- From a function's contract to a statement's row: the arguments are read, the answer is told, nothing has turned. -/
set_option linter.unusedVariables false
set_option linter.unusedSimpArgs false
namespace Go.Proofs.YtndoembhbfiokaaGreatDoor.Am
open Go Go.RowKit Go.ChangeShapes Go.WideShapes

/-- All arguments, one behind the other. -/
def DecA (B : {H : Type} → DataW H → Nat) (P : Program) (ts : List TypeId) {α : Type} (g : α → List AV) (bk : α → Nat) (wf : α → Prop) : Prop :=
  ∀ (H : Type) (enc : TypeId × Value → H) (W : World) (ρ : Nat → Value) (base : Nat) (args : List Value) (ds : List (DataW H)) (ps : List MemPlace),
    DataW.TrodAll enc P W 0 (fun _ => true) true ts args ds ps → (∀ (j : Nat) t v, ts[j]? = some t → args[j]? = some v → Value.okWide P W .any base t v) →
    ∃ x, CRel μ0 ρ L0 W (g x) args.toArray ∧ bk x ≤ (ds.map B).sum ∧ wf x

section
variable {B : {H : Type} → DataW H → Nat} {P : Program} {t : TypeId} {ts : List TypeId}

theorem CRel.nil' {μ : Mu} {ρ : Nat → Value} {L : LV} {w : World} : CRel μ ρ L w [] #[] := ⟨rfl, fun j v h => by simp at h⟩
theorem DecA.nil : DecA B P [] (fun _ : Unit => []) (fun _ => 0) (fun _ => True) := by
  intro H enc W ρ base args ds ps h _
  match args, ds, h with
  | [], [], _ => exact ⟨(), CRel.nil', Nat.zero_le _, trivial⟩
theorem CRel.cons' {μ : Mu} {ρ : Nat → Value} {L : LV} {w : World} {x : AV} {xs : List AV} {v : Value} {vs : List Value} (h : VRel μ ρ L w x v) (hs : CRel μ ρ L w xs vs.toArray) : CRel μ ρ L w (x :: xs) (v :: vs).toArray := by
  obtain ⟨h1, h2⟩ := hs
  refine ⟨by simp at h1 ⊢; exact h1, fun j y hy => ?_⟩
  rcases j with _ | j
  · simp at hy; subst hy; exact ⟨v, by simp, h⟩
  · obtain ⟨c, hc, hr⟩ := h2 j y (by simpa using hy)
    exact ⟨c, by simpa using hc, hr⟩
theorem not_agg (ht : (∃ fs, P.underlying t = some (.struct fs)) ∨ (∃ n e, P.underlying t = some (.array n e)) → False) {W : World} {base : Nat} {v : Value} (h : Value.okWide P W .any base t v) : v.cells.toList = [v] := by
  cases v with
  | agg cs =>
    exfalso
    unfold Value.okWide at h
    split at h
    · rename_i fs e; exact ht (.inl ⟨fs, e⟩)
    · rename_i n e he; exact ht (.inr ⟨n, e, he⟩)
    · unfold Cell.okWide at h
      split at h <;> simp_all [Cell.ok]
  | _ => rfl
theorem DecA.one {α β : Type} {f : α → List AV} {g : β → List AV} {bk : α → Nat} {bk' : β → Nat} {wf : α → Prop} {wf' : β → Prop} (D : Dec B P t f 1 bk wf) (x1 : α → AV) (hf : ∀ x, f x = [x1 x])
    (ht : (∃ fs, P.underlying t = some (.struct fs)) ∨ (∃ n e, P.underlying t = some (.array n e)) → False) (R : DecA B P ts g bk' wf') :
    DecA B P (t :: ts) (fun x : α × β => x1 x.1 :: g x.2) (fun x => bk x.1 + bk' x.2) (fun x => wf x.1 ∧ wf' x.2) := by
  intro H enc W ρ base args ds ps h hok
  match args, ds, h with
  | v :: vs, d :: ds, h =>
    obtain ⟨p, q, ⟨fuel, h0⟩, hr, rfl⟩ := h
    rw [not_agg ht (hok 0 t v rfl rfl)] at h0
    obtain ⟨x, hx1, hx2, hx3⟩ := D.2.2 enc W ρ _ _ _ _ _ _ h0
    obtain ⟨y, hy1, hy2, hy3⟩ := R H enc W ρ base vs ds q hr (fun j t' v' h1 h2 => hok (j + 1) t' v' (by simpa using h1) (by simpa using h2))
    refine ⟨(x, y), ?_, by simp only [List.map_cons, List.sum_cons]; exact Nat.add_le_add hx2 hy2, hx3, hy3⟩
    rw [hf] at hx1
    obtain ⟨c, hc, hv⟩ := hx1.2 0 _ rfl
    simp at hc
    subst hc
    exact CRel.cons' hv hy1
theorem DecA.agg {α β : Type} {f : α → List AV} {g : β → List AV} {n : Nat} {bk : α → Nat} {bk' : β → Nat} {wf : α → Prop} {wf' : β → Prop} {fs : Array Field} (D : Dec B P t f n bk wf) (ht : P.underlying t = some (.struct fs)) (R : DecA B P ts g bk' wf') :
    DecA B P (t :: ts) (fun x : α × β => .agg (f x.1) :: g x.2) (fun x => bk x.1 + bk' x.2) (fun x => wf x.1 ∧ wf' x.2) := by
  intro H enc W ρ base args ds ps h hok
  match args, ds, h with
  | v :: vs, d :: ds, h =>
    obtain ⟨p, q, ⟨fuel, h0⟩, hr, rfl⟩ := h
    obtain ⟨cs, rfl, _⟩ := okWide_struct ht (hok 0 t v rfl rfl)
    obtain ⟨x, hx1, hx2, hx3⟩ := D.2.2 enc W ρ _ _ _ _ _ _ h0
    obtain ⟨y, hy1, hy2, hy3⟩ := R H enc W ρ base vs ds q hr (fun j t' v' h1 h2 => hok (j + 1) t' v' (by simpa using h1) (by simpa using h2))
    refine ⟨(x, y), ?_, by simp only [List.map_cons, List.sum_cons]; exact Nat.add_le_add hx2 hy2, hx3, hy3⟩
    exact CRel.cons' (CRel.agg (by simpa [CR, Value.cells] using hx1)) hy1
theorem trodAll_stays (hl : laidOutB P = true) {H : Type} {enc : TypeId × Value → H} {W W' : World} (hb : Below W.heap.size W W') {sp' : Nat → Bool} : ∀ {ts : List TypeId} {args : List Value} {ds : List (DataW H)} {ps : List MemPlace},
    (∀ t ∈ ts, P.readableRec t = true ∧ t < P.types.size) → DataW.TrodAll enc P W 0 (fun _ => true) true ts args ds ps → (∀ p ∈ ps, p.block < W.heap.size) → (∀ p ∈ ps, sp' p.block = true) → DataW.TrodAll enc P W' 0 sp' true ts args ds ps
  | [], [], [], ps, _, h, _, _ => h
  | t :: ts, v :: vs, d :: ds, ps, hr, h, hlt, hs => by
    obtain ⟨p, q, h0, h1, rfl⟩ := h
    obtain ⟨r1, r2⟩ := hr t (List.mem_cons_self ..)
    exact ⟨p, q, WideElems.Trod_stays hl r1 r2 h0 (fun x hx => hb.same (hlt x (List.mem_append_left _ hx))) (fun x hx => hs x (List.mem_append_left _ hx)),
      trodAll_stays hl hb (fun t ht => hr t (List.mem_cons_of_mem _ ht)) h1 (fun x hx => hlt x (List.mem_append_right _ hx)) (fun x hx => hs x (List.mem_append_right _ hx)), rfl⟩
  | [], _ :: _, _, _, _, h, _, _ => h.elim
  | [], [], _ :: _, _, _, h, _, _ => h.elim
  | _ :: _, [], _, _, _, h, _, _ => h.elim
  | _ :: _, _ :: _, [], _, _, h, _, _ => h.elim
end

/-- THE STEP FROM A CONTRACT TO THE ROW's: a law that answers true. -/
theorem law_contract {X : Ctx} {P : Program} (hP : X.P = P) {B : {H : Type} → DataW H → Nat} {f : FuncId} {fn : Func} {s : ChangeSpec} {α : Type} {g : α → List AV} {bk : α → Nat} {wf : α → Prop} {tb : TypeId} {M : Nat}
    (hres : fn.resultTypes = #[tb]) (hb : P.underlying tb = some .bool) (hl : laidOutB P = true) (hread : ∀ t ∈ fn.params.toList, P.readableRec t = true ∧ t < P.types.size) (hvars : s.vars = [])
    (hfn : ∀ (H : Type) (ds : List (DataW H)), ds.length = fn.params.size → s.fn H ds = { results := [.lit (.bool true)], args := ds })
    (D : DecA B P fn.params.toList g bk wf) (hspec : ∀ x, wf x → bk x ≤ M → ACalc X f (g x) (.bool true))
    {H : Type} {enc : TypeId × Value → H} {W : World} {base : Nat} {args : Array Value} {ds gs : List (DataW H)} {before : List MemPlace}
    (hval : ∀ (j : Nat) t v, fn.params[j]? = some t → args[j]? = some v → Value.okWide P W .any base t v)
    (hW : DataW.Whole enc P fn.params.toList s.vars false W args.toList ds gs before) (hk : (ds.map B).sum ≤ M) (hok : ∃ ρ, X.ok ρ W) :
    Calls P f args W fun e W' => ∃ v, e = .returned v ∧ s.post enc P fn false true false false W args v W' := by
  subst hP
  obtain ⟨ρ, hok⟩ := hok
  have hlt : ∀ p ∈ before, p.block < W.heap.size := fun p hp => hW.lt p hp
  have hW' := hW
  obtain ⟨p, q, hA, hV, rfl, hfz, hnd⟩ := hW'
  rw [hvars] at hV
  obtain ⟨rfl, rfl⟩ : gs = [] ∧ q = [] := by
    cases gs with
    | nil => exact ⟨rfl, hV⟩
    | cons d r => exact absurd hV (by intro h; cases h)
  have hdl : ds.length = fn.params.size := by
    have : ∀ {ts : List TypeId} {vs : List Value} {ds : List (DataW H)} {p : List MemPlace}, DataW.TrodAll enc X.P W 0 (fun _ => true) true ts vs ds p → ds.length = ts.length := by
      intro ts
      induction ts with
      | nil => intro vs ds p h; match vs, ds, h with | [], [], _ => rfl
      | cons t ts ih => intro vs ds p h; match vs, ds, h with | v :: vs, d :: ds, h => obtain ⟨_, _, _, h, _⟩ := h; simp [ih h]
    rw [this hA]; simp
  obtain ⟨x, hx1, hx2, hx3⟩ := D H enc W ρ base args.toList ds p hA (fun j t v h1 h2 => hval j t v (by simpa using h1) (by simpa using h2))
  refine Calls.mono ((hspec x hx3 (Nat.le_trans hx2 hk) AH.nil).2 μ0 ρ W W args (rel0 hok) (by simpa using hx1)) fun e W' ⟨c, v, H', μ', he, ⟨hv, hH⟩, hx, hR, hvr⟩ => ?_
  subst he hv hH
  have hc : c = .bool true := by cases hvr; rfl
  subst hc
  have hbel : Below W.heap.size W W' := hR.below
  have hps : ∀ x ∈ p ++ [], x ∈ p := fun x hx => by simpa using hx
  have e1 : s.fn H (ds ++ []) = { results := [.lit (.bool true)], args := ds } := by rw [List.append_nil]; exact hfn H ds hdl
  refine ⟨_, rfl, ds, [], p ++ [], [], p, [], hW, ?_, ?_, ?_, ?_, fun h => by cases h⟩
  · rw [e1, hres]
    exact trodAll_mk1 (shut_bool hb true)
  · rw [e1]
    exact trodAll_stays hl hbel hread hA (fun x hx => hlt x (by simpa using hx)) (fun x hx => by simpa using hlt x (by simpa using hx))
  · rw [e1, hvars]; rfl
  · exact World.keptBut_mono (fun x hx => ⟨hx, .inr (.inl (hps x hx))⟩) (hbel.frame (· ∈ p ++ []))

/-- WHAT A LIST OF SENTINELS GIVES: each variable's cell, a pointer apiece. -/
def sentD {H : Type} (nm : String) (text : List UInt8) : DataW H := .iface nm (.ptr (.agg [.lit (.string text)]))
theorem sents_of_vars {P : Program} {W : World} {ti tp te ts : TypeId} {ms : Array (String × TypeId)} {fl : Field} {nm : String}
    (hi : P.underlying ti = some (.interface ms)) (hrow : ∀ u, P.typeName? 3 u = some nm → u = tp)
    (hp : P.underlying tp = some (.pointer te)) (he : P.underlying te = some (.struct #[fl])) (hft : fl.type = ts) (hfo : fl.offset = 0) (hs : P.underlying ts = some .string) (hc : P.cellsOf te = 1) (hcs : P.cellsOf ts = 1) :
    ∀ (l : List (String × List UInt8)) (ps : List MemPlace), DataW.LaidVars P W (l.map fun x => (x.1, sentD nm x.2)) ps →
    (∀ x ∈ l, (P.globalNamed x.1).bind (fun g => (P.globals[g]?).map (·.type)) = some ti) →
    (∀ b off, MemPlace.cell b off ∈ ps → (∃ c t, W.heap[b]? = some (.cells c t (0, 0))) ∧ ∀ u v, W.cell? ⟨b, off, none⟩ = some (.iface u v) → Value.okWide P W .any 0 u v) →
    ∃ ads : List Addr, ads.length = l.length ∧ (ads.map fun a => MemPlace.cell a.block a.off).Sublist ps ∧ (∀ a ∈ ads, a.spot = none) ∧
      ∀ (i : Nat) x, l[i]? = some x → ∃ a g, ads[i]? = some a ∧ P.globalNamed x.1 = some g ∧ W.cell? ⟨g, 0, none⟩ = some (.iface tp (.pointer (some a)))
  | [], ps, h, _, _ => ⟨[], rfl, by simp, by simp, fun i x hx => by simp at hx⟩
  | (n, text) :: r, ps, h, hty, hrows => by
    obtain ⟨g, t, cs, f, p, q, hg, ht, hv, hd, hrest, e0⟩ := h
    subst e0
    have hti : t = ti := by
      have := hty (n, text) (List.mem_cons_self ..)
      simp only [hg, Option.bind_some, ht, Option.some.injEq] at this
      exact this
    subst hti
    obtain ⟨ads, hl, hsub, hsp, hat⟩ := sents_of_vars hi hrow hp he hft hfo hs hc hcs r q hrest (fun x hx => hty x (List.mem_cons_of_mem _ hx)) (fun b off hb => hrows b off (List.mem_append_right _ hb))
    obtain ⟨l0⟩ := cs
    have ok0 : ∀ u v, l0 = [.iface u v] → Value.okWide P W .any 0 u v := fun u v e => by
      subst e
      exact (hrows g 0 (by simp [MemPlace.row])).2 u v (by simpa using World.var?_cell hg hv 0)
    obtain ⟨a, s, rfl, hca, hsa, hza, rfl⟩ := errorString_of_trod hi hrow hp he hft hfo hs hc hcs hd ok0
    have hspa : a.spot = none := by
      cases hsp : a.spot with
      | none => rfl
      | some k =>
        exfalso
        simp only [World.cell?, hsp] at hca
        split at hca
        · obtain ⟨c, tt, hb⟩ := (hrows a.block a.off (by simp [MemPlace.row])).1
          simp_all
        · cases hca
    refine ⟨a :: ads, by simp [hl], ?_, fun b hb => ?_, fun i x hx => ?_⟩
    · simp only [List.map_cons]
      have : (MemPlace.cell a.block a.off :: ads.map fun a => MemPlace.cell a.block a.off) = [MemPlace.cell a.block a.off] ++ ads.map fun a => MemPlace.cell a.block a.off := rfl
      rw [this]
      refine List.Sublist.append ?_ hsub
      have e : MemPlace.row a 1 = [MemPlace.cell a.block a.off] := by simp [MemPlace.row]
      rw [e]
      exact List.sublist_append_right _ _
    · rcases List.mem_cons.1 hb with rfl | hb
      · exact hspa
      · exact hsp b hb
    · rcases i with _ | i
      · simp at hx; subst hx
        exact ⟨a, g, rfl, hg, by simpa using World.var?_cell hg hv 0⟩
      · obtain ⟨a', g', h1, h2, h3⟩ := hat i x (by simpa using hx)
        exact ⟨a', g', by simpa using h1, h2, h3⟩
theorem sents_of_laid {P : Program} {W : World} {ti tp te ts : TypeId} {ms : Array (String × TypeId)} {fl : Field} {nm : String}
    (hi : P.underlying ti = some (.interface ms)) (hrow : ∀ u, P.typeName? 3 u = some nm → u = tp)
    (hp : P.underlying tp = some (.pointer te)) (he : P.underlying te = some (.struct #[fl])) (hft : fl.type = ts) (hfo : fl.offset = 0) (hs : P.underlying ts = some .string) (hc : P.cellsOf te = 1) (hcs : P.cellsOf ts = 1)
    (l : List (String × List UInt8)) (h : laidMet P (l.map fun x => (x.1, sentD nm x.2)) W) (hty : ∀ x ∈ l, (P.globalNamed x.1).bind (fun g => (P.globals[g]?).map (·.type)) = some ti) :
    ∃ ads : List Addr, ads.length = l.length ∧ ads.Nodup ∧ (∀ a ∈ ads, ∃ c t, W.heap[a.block]? = some (.cells c t (0, 0))) ∧
      ∀ (i : Nat) x, l[i]? = some x → ∃ a g, ads[i]? = some a ∧ P.globalNamed x.1 = some g ∧ W.cell? ⟨g, 0, none⟩ = some (.iface tp (.pointer (some a))) := by
  obtain ⟨ps, hv, hnd, hrows⟩ := h
  obtain ⟨ads, h1, h2, h3, h4⟩ := sents_of_vars hi hrow hp he hft hfo hs hc hcs l ps hv hty hrows
  refine ⟨ads, h1, ?_, fun a ha => (hrows a.block a.off (h2.subset (List.mem_map.2 ⟨a, ha, rfl⟩))).1, h4⟩
  have : (ads.map fun a => MemPlace.cell a.block a.off).Nodup := h2.nodup hnd
  exact List.Pairwise.of_map _ (fun a b hab h => hab (by rw [h])) this
end Go.Proofs.YtndoembhbfiokaaGreatDoor.Am
