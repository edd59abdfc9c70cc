/- The logic and the contracts that the laws stand on, part 15. -/
import Derived.Test.YtndoembhbfiokaaGreatDoorAan
import Derived.Test.YtndoembhbfiokaaGreatDoorRows
/- The package variables as the row lists them: the twenty errors and the handle of the type error. -/
set_option linter.unusedVariables false
set_option linter.unusedSimpArgs false
namespace Go.Proofs.YtndoembhbfiokaaGreatDoor.Am
open Go Go.RowKit Go.Proofs Go.Proofs.YtndoembhbfiokaaGreatDoor

def laidL : List (String × DataW Unit) := Rows.frameAsksUptoRow.laid
def laidH : List (String × DataW Unit) := laidL.take 1
def texts : List (String × List UInt8) := laidL.filterMap fun x => match x.2 with
  | .iface _ (.ptr (.agg [.lit (.string t)])) => some (x.1, t)
  | _ => none
theorem laid_some : (laidL.filter fun x => x.2.handleName?.isSome) = laidH := by kernel_rfl
theorem laid_none : (laidL.filter fun x => x.2.handleName?.isNone) = texts.map fun x => (x.1, sentD "*errors.errorString" x.2) := by kernel_rfl
theorem laid_parts {W : World} (h : laidMetH Tryz.prog laidL W) : laidMet Tryz.prog (texts.map fun x => (x.1, sentD "*errors.errorString" x.2)) W ∧ handlesMet Tryz.prog laidH W := by
  unfold laidMetH at h
  rw [laid_some, laid_none] at h
  exact h
theorem texts_type : ∀ x ∈ texts, (Tryz.prog.globalNamed x.1).bind (fun g => (Tryz.prog.globals[g]?).map (·.type)) = some 41 := by
  have h : (texts.map fun x => (Tryz.prog.globalNamed x.1).bind (fun g => (Tryz.prog.globals[g]?).map (·.type))) = texts.map fun _ => some 41 := by kernel_rfl
  intro x hx
  obtain ⟨i, hi, rfl⟩ := List.getElem_of_mem hx
  have h2 : (texts.map fun x => (Tryz.prog.globalNamed x.1).bind (fun g => (Tryz.prog.globals[g]?).map (·.type)))[i]? = (texts.map fun _ => some 41)[i]? := by rw [h]
  simpa [hi] using h2
theorem texts_at : (sents.map fun y => (texts[y.2 - 1]?).bind fun x => Tryz.prog.globalNamed x.1) = sents.map fun y => some y.1 := by kernel_rfl
theorem texts_get {g c : Nat} (h : (g, c) ∈ sents) : ∃ x, texts[c - 1]? = some x ∧ Tryz.prog.globalNamed x.1 = some g := by
  obtain ⟨i, hi, he⟩ := List.getElem_of_mem h
  have h2 : (sents.map fun y => (texts[y.2 - 1]?).bind fun x => Tryz.prog.globalNamed x.1)[i]? = (sents.map fun y => some y.1)[i]? := by rw [texts_at]
  simp only [List.getElem?_map, List.getElem?_eq_getElem hi, he, Option.map_some, Option.some.injEq] at h2
  rw [Option.bind_eq_some_iff] at h2
  exact h2
theorem sents_pos {g c : Nat} (h : (g, c) ∈ sents) : 1 ≤ c := by
  have : ∀ y ∈ sents, 1 ≤ y.2 := by decide
  exact this _ h
theorem star : "*" ++ "errors.errorString" = "*errors.errorString" := by decide
theorem rowES (u : TypeId) (h : Tryz.prog.typeName? 3 u = some "*errors.errorString") : u = 222 :=
  typeName_ptr_named (nm := "errors.errorString") (by rw [star]; kernel_rfl) (by kernel_rfl) (by decide) u (by rw [star]; exact h)
theorem gET : Tryz.prog.globalNamed "errors.errorType" = some 20 := by kernel_rfl
theorem rtET : (Tryz.prog.cutTypes.find? (·.1 == "internal/reflectlite.rtype")).map (·.2) = some 193 := by kernel_rfl
theorem rowET : ((List.range Tryz.prog.types.size).filter fun t => Tryz.prog.rowNamed t [101, 114, 114, 111, 114]) = [41] := by kernel_rfl
theorem handle_of {W : World} (h : handlesMet Tryz.prog laidH W) : W.cell? ⟨20, 0, none⟩ = some (.iface 193 (.agg #[.pointer (some ⟨21, 41, none⟩)])) := by
  obtain ⟨name, u, ty, e1, e2, e3, e4, e5⟩ := h ("errors.errorType", .iface "internal/reflectlite.rtype" (.agg [.ptr (.lit (.string [101, 114, 114, 111, 114]))])) (List.mem_singleton.2 rfl)
  have en : name = [101, 114, 114, 111, 114] := (Option.some.inj e1).symm
  subst en
  obtain rfl := Option.some.inj (rtET.symm.trans e2)
  have hm : ty ∈ (List.range Tryz.prog.types.size).filter fun t => Tryz.prog.rowNamed t [101, 114, 114, 111, 114] := List.mem_filter.2 ⟨List.mem_range.2 e3, e4⟩
  rw [rowET] at hm
  obtain rfl := List.mem_singleton.1 hm
  have hh : typeHandle Tryz.prog 41 = .pointer (some ⟨21, 41, none⟩) := by kernel_rfl
  rw [hh] at e5
  simpa using World.var?_cell gET e5 0

theorem cellsES : Tryz.prog.cellsOf 243 = 1 := by kernel_rfl
theorem cellsStr : Tryz.prog.cellsOf 9 = 1 := by kernel_rfl
/-- What the row's condition gives of the errors. -/
theorem sentOK_of {W : World} (h : laidMetH Tryz.prog laidL W) : ∃ ρ, SentOK ρ W := by
  obtain ⟨h1, h2⟩ := laid_parts h
  obtain ⟨ads, hl, hnd, hrow, hat⟩ := sents_of_laid Tryz.underlying41 rowES Tryz.underlying222 Tryz.underlying243 rfl rfl Tryz.underlying9 cellsES cellsStr texts h1 texts_type
  have key : ∀ g c, (g, c) ∈ sents → ∃ a, ads[c - 1]? = some a ∧ W.cell? ⟨g, 0, none⟩ = some (.iface 222 (.pointer (some a))) := fun g c hgc => by
    obtain ⟨x, hx, hg⟩ := texts_get hgc
    obtain ⟨a, g', ha, hg', hc⟩ := hat _ _ hx
    obtain rfl := Option.some.inj (hg.symm.trans hg')
    exact ⟨a, ha, hc⟩
  refine ⟨fun c => .pointer ads[c - 1]?, ?_, ?_, ?_, handle_of h2⟩
  · intro g c hgc
    obtain ⟨a, ha, hc⟩ := key g c hgc
    rw [hc, ha]
  · intro g c hgc
    obtain ⟨a, ha, hc⟩ := key g c hgc
    obtain ⟨ca, ta, hb⟩ := hrow a (List.mem_of_getElem? ha)
    exact ⟨a, ca, ta, by simp only [ha], hb⟩
  · intro g c g' c' h1 h2 hne he
    obtain ⟨a, ha, _⟩ := key g c h1
    obtain ⟨a', ha', _⟩ := key g' c' h2
    simp only [ha, ha', Value.pointer.injEq, Option.some.injEq] at he
    subst he
    obtain ⟨i1, e1⟩ := List.getElem?_eq_some_iff.1 ha
    obtain ⟨i2, e2⟩ := List.getElem?_eq_some_iff.1 ha'
    have := (List.getElem_inj hnd).1 (e1.trans e2.symm)
    have p1 := sents_pos h1
    have p2 := sents_pos h2
    omega

theorem mixed : Tryz.prog.follows .mixedOrders = true := by kernel_rfl
/-- The ground that all contracts stand on. -/
noncomputable def ctx : Ctx where
  P := Tryz.prog
  Γ := fun g => (sents.find? fun y => y.1 == g).map fun y => sentV y.2
  ok := SentOK
  okΓ := fun ρ w h g v hv => by
    rw [Option.map_eq_some_iff] at hv
    obtain ⟨y, hy, rfl⟩ := hv
    have hm := List.mem_of_find?_eq_some hy
    have he := List.find?_some hy
    simp only [beq_iff_eq] at he
    obtain ⟨g', c⟩ := y
    simp only at he
    subst he
    exact ⟨_, h.var _ _ hm, rfl, fun μ L w' => .iface _ _ _ (.opq c)⟩
  mixed := mixed
theorem ctx_sent : Sent ctx where
  P := rfl
  g := by
    intro g c h
    have : ∀ y ∈ sents, (sents.find? fun z => z.1 == y.1) = some y := by decide
    show ((sents.find? fun y => y.1 == g).map fun y => sentV y.2) = some (sentV c)
    rw [this _ h]; rfl
  ok := fun ρ w h => h

/-- How much a reading holds. -/
theorem bulk_one {H : Type} (d : DataW H) : 1 ≤ Rows.uptoBulk d := by
  cases d with
  | lit l => cases l <;> simp [Rows.uptoBulk]
  | _ => simp [Rows.uptoBulk]
theorem bulk_all {H : Type} : ∀ (l : List (DataW H)), Rows.uptoBulkAll l = (l.map Rows.uptoBulk).sum
  | [] => by simp [Rows.uptoBulkAll]
  | d :: l => by simp [Rows.uptoBulkAll, bulk_all l]
theorem bulk : Bulk (fun {H} (d : DataW H) => Rows.uptoBulk d) where
  one := bulk_one
  str := fun s => by simp [Rows.uptoBulk]
  sl := fun es sp => by
    show (es.map Rows.uptoBulk).sum + 1 ≤ _
    simp only [Rows.uptoBulk, bulk_all]; omega
  agg := fun ps => by
    show (ps.map Rows.uptoBulk).sum + 1 ≤ _
    simp only [Rows.uptoBulk, bulk_all]; omega
theorem bulk_small {H : Type} {l : List (DataW H)} (h : Rows.uptoSmall H l = true) : (l.map Rows.uptoBulk).sum ≤ 1048576 := by
  have : Rows.uptoBulkAll l ≤ 1048576 := of_decide_eq_true h
  rwa [bulk_all] at this
theorem laidOut : laidOutB Tryz.prog = true := by kernel_rfl
theorem own : ownKnob Tryz.prog.godebug = none := by kernel_rfl
end Go.Proofs.YtndoembhbfiokaaGreatDoor.Am
