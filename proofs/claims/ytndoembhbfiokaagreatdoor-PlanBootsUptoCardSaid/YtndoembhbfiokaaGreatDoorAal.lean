/- The logic and the contracts that the laws stand on, part 12. -/
import Derived.Test.YtndoembhbfiokaaGreatDoorAak
import Derived.LaidEql
import Derived.Stop.Asserts
import Derived.RowKitTokens
/- errors.Is, at the errors of this program: sentinels, and sentinels with a place. After the kit's SentryIs. -/
set_option linter.unusedVariables false
set_option linter.unusedSimpArgs false
namespace Go.Proofs.YtndoembhbfiokaaGreatDoor.Am
open Go.RowKit Go.Extern.Stop Go.Stop Go.Extern Go.Proofs

theorem isTypeOf (v : Value) (w : World) : (Extern.ReflectliteType.typeOf #[.iface 222 v]).run Tryz.prog w = .ok (.iface 193 (.agg #[.pointer (some ⟨21, 222, none⟩)])) w := by kernel_rfl
/-- The model's own answer to (rtype).Comparable. -/
def cmpM : Array Value → Sem Value := Extern.ReflectliteType.method fun t => do Extern.Rtype.noPackHeld "Comparable" t; pure (.bool (← typeInfo t).comparable)
theorem isComparable (w : World) : (cmpM #[.agg #[.pointer (some ⟨21, 222, none⟩)]]).run Tryz.prog w = .ok (.bool true) w := by kernel_rfl
theorem isMethodComparable (v : Value) (w : World) : (Go.method 355 193 v "Comparable").run Tryz.prog w = .ok (179, v) w := by kernel_rfl
theorem isComp : (Tryz.prog.info? 222).map (·.comparable) = some true := by kernel_rfl
theorem isSize : (Tryz.prog.info? 243).map (·.size) = some 1 := by kernel_rfl

theorem noIsE (v : Value) (xT : TypeId) (w : World) : (Instr.typeAssert (.iface 222 v) xT 195 true).run Tryz.prog w = .ok (.tuple #[.nilIface, .bool false]) w := run_typeAssert_lacksB Tryz.underlying195 (by kernel_rfl) (by kernel_rfl) v xT w
theorem noUnwrapE (v : Value) (xT : TypeId) (w : World) : (Instr.typeAssert (.iface 222 v) xT 198 true).run Tryz.prog w = .ok (.tuple #[.nilIface, .bool false]) w := run_typeAssert_lacksB Tryz.underlying198 (by kernel_rfl) (by kernel_rfl) v xT w
theorem noUnwrapsE (v : Value) (xT : TypeId) (w : World) : (Instr.typeAssert (.iface 222 v) xT 200 true).run Tryz.prog w = .ok (.tuple #[.nilIface, .bool false]) w := run_typeAssert_lacksB Tryz.underlying200 (by kernel_rfl) (by kernel_rfl) v xT w
theorem noIsW (v : Value) (xT : TypeId) (w : World) : (Instr.typeAssert (.iface 131 v) xT 195 true).run Tryz.prog w = .ok (.tuple #[.nilIface, .bool false]) w := run_typeAssert_lacksB Tryz.underlying195 (by kernel_rfl) (by kernel_rfl) v xT w
theorem hasUnwrapW (v : Value) (xT : TypeId) (w : World) : (Instr.typeAssert (.iface 131 v) xT 198 true).run Tryz.prog w = .ok (.tuple #[.iface 131 v, .bool true]) w := run_typeAssert_hasB Tryz.underlying198 (by kernel_rfl) v xT w
theorem methodUnwrap (v : Value) (w : World) : (Go.method 355 131 v "Unwrap").run Tryz.prog w = .ok (173, v) w := by kernel_rfl

theorem is_same (a : Addr) (w : World) :
    Calls Tryz.prog 61 #[.iface 222 (.pointer (some a)), .iface 222 (.pointer (some a))] w fun e w' => e = .returned (.bool true) ∧ w' = w := by
  obtain ⟨i, hi, hcmp⟩ := Option.map_eq_some_iff.1 isComp
  obtain ⟨j, hj, hjs⟩ := Option.map_eq_some_iff.1 isSize
  have h8 := @run_callFunc_extern Tryz.prog 99 _ Extern.ReflectliteType.typeOf Tryz.func99 (by kernel_rfl) (by kernel_rfl) (by kernel_rfl) (by kernel_rfl)
  have h32 := @run_callFunc_extern Tryz.prog 179 _ cmpM Tryz.func179 (by kernel_rfl) (by kernel_rfl) (by kernel_rfl) (by kernel_rfl)
  have tT := isTypeOf
  have cT := isComparable
  have mR := isMethodComparable
  have heq := run_eql_iface_ptr_same (P := Tryz.prog) w a Tryz.underlying41 Tryz.underlying222 hi hcmp hj
  go_enter Tryz.func61, Tryz.ntmps61
  go_wp2
  refine wp_loop_rounds 1 ?_
  rw [rounds_succ]
  go_wp2
  go_ret
  exact ⟨rfl, rfl⟩

theorem is_other (a b : Addr) (ca cb : Array Value) (ta tb : TypeId) (w : World) (hne : a ≠ b) (ha : w.heap[a.block]? = some (.cells ca ta (0, 0))) (hb : w.heap[b.block]? = some (.cells cb tb (0, 0))) :
    Calls Tryz.prog 61 #[.iface 222 (.pointer (some a)), .iface 222 (.pointer (some b))] w fun e w' => e = .returned (.bool false) ∧ w' = w := by
  obtain ⟨i, hi, hcmp⟩ := Option.map_eq_some_iff.1 isComp
  obtain ⟨j, hj, hjs⟩ := Option.map_eq_some_iff.1 isSize
  have h8 := @run_callFunc_extern Tryz.prog 99 _ Extern.ReflectliteType.typeOf Tryz.func99 (by kernel_rfl) (by kernel_rfl) (by kernel_rfl) (by kernel_rfl)
  have h32 := @run_callFunc_extern Tryz.prog 179 _ cmpM Tryz.func179 (by kernel_rfl) (by kernel_rfl) (by kernel_rfl) (by kernel_rfl)
  have tT := isTypeOf
  have cT := isComparable
  have mR := isMethodComparable
  have nE := noIsE
  have uE := noUnwrapE
  have vE := noUnwrapsE
  have heq := run_eql_iface_ptr_other (P := Tryz.prog) w Tryz.underlying41 Tryz.underlying222 hi hcmp hj (by rw [hjs]; decide) hne ha hb
  go_enter Tryz.func61, Tryz.ntmps61
  go_wp2
  refine wp_loop_rounds 1 ?_
  rw [rounds_succ]
  go_wp2
  go_ret
  exact ⟨rfl, rfl⟩

theorem is_wrap_same (pb po : Nat) (b : Addr) (w : World) (h1 : w.cell? ⟨pb, po + 1, none⟩ = some (.iface 222 (.pointer (some b)))) :
    Calls Tryz.prog 61 #[.iface 131 (.pointer (some ⟨pb, po, none⟩)), .iface 222 (.pointer (some b))] w fun e w' => e = .returned (.bool true) ∧ w' = w := by
  obtain ⟨i, hi, hcmp⟩ := Option.map_eq_some_iff.1 isComp
  obtain ⟨j, hj, hjs⟩ := Option.map_eq_some_iff.1 isSize
  have h8 := @run_callFunc_extern Tryz.prog 99 _ Extern.ReflectliteType.typeOf Tryz.func99 (by kernel_rfl) (by kernel_rfl) (by kernel_rfl) (by kernel_rfl)
  have h32 := @run_callFunc_extern Tryz.prog 179 _ cmpM Tryz.func179 (by kernel_rfl) (by kernel_rfl) (by kernel_rfl) (by kernel_rfl)
  have tT := isTypeOf
  have cT := isComparable
  have mR := isMethodComparable
  have nE := noIsE
  have uE := noUnwrapE
  have vE := noUnwrapsE
  have nW := noIsW
  have uW := hasUnwrapW
  have mU := methodUnwrap
  have heq := run_eql_iface_ptr_same (P := Tryz.prog) w b Tryz.underlying41 Tryz.underlying222 hi hcmp hj
  have hty := run_eql_iface_types (P := Tryz.prog) 131 222 (.pointer (some ⟨pb, po, none⟩)) (.pointer (some b)) Tryz.underlying41 (by decide) w
  go_enter Tryz.func61, Tryz.ntmps61
  go_wp2
  refine wp_loop_rounds 2 ?_
  rw [rounds_succ]
  go_wp2
  rw [rounds_succ]
  go_wp2
  go_ret
  exact ⟨rfl, rfl⟩

theorem is_wrap_other (pb po : Nat) (b a : Addr) (ca cb : Array Value) (ta tb : TypeId) (w : World) (h1 : w.cell? ⟨pb, po + 1, none⟩ = some (.iface 222 (.pointer (some a)))) (hne : a ≠ b) (ha : w.heap[a.block]? = some (.cells ca ta (0, 0))) (hb : w.heap[b.block]? = some (.cells cb tb (0, 0))) :
    Calls Tryz.prog 61 #[.iface 131 (.pointer (some ⟨pb, po, none⟩)), .iface 222 (.pointer (some b))] w fun e w' => e = .returned (.bool false) ∧ w' = w := by
  obtain ⟨i, hi, hcmp⟩ := Option.map_eq_some_iff.1 isComp
  obtain ⟨j, hj, hjs⟩ := Option.map_eq_some_iff.1 isSize
  have h8 := @run_callFunc_extern Tryz.prog 99 _ Extern.ReflectliteType.typeOf Tryz.func99 (by kernel_rfl) (by kernel_rfl) (by kernel_rfl) (by kernel_rfl)
  have h32 := @run_callFunc_extern Tryz.prog 179 _ cmpM Tryz.func179 (by kernel_rfl) (by kernel_rfl) (by kernel_rfl) (by kernel_rfl)
  have tT := isTypeOf
  have cT := isComparable
  have mR := isMethodComparable
  have nE := noIsE
  have uE := noUnwrapE
  have vE := noUnwrapsE
  have nW := noIsW
  have uW := hasUnwrapW
  have mU := methodUnwrap
  have heq := run_eql_iface_ptr_other (P := Tryz.prog) w Tryz.underlying41 Tryz.underlying222 hi hcmp hj (by rw [hjs]; decide) hne ha hb
  have hty := run_eql_iface_types (P := Tryz.prog) 131 222 (.pointer (some ⟨pb, po, none⟩)) (.pointer (some b)) Tryz.underlying41 (by decide) w
  go_enter Tryz.func61, Tryz.ntmps61
  go_wp2
  refine wp_loop_rounds 2 ?_
  rw [rounds_succ]
  go_wp2
  rw [rounds_succ]
  go_wp2
  go_ret
  exact ⟨rfl, rfl⟩
end Go.Proofs.YtndoembhbfiokaaGreatDoor.Am
/- errors.As at a target **api.At. After the kit's ToyasAs. -/
set_option linter.unusedVariables false
set_option linter.unusedSimpArgs false
namespace Go.Proofs.YtndoembhbfiokaaGreatDoor.Am
open Go.RowKit Go.Extern.Stop Go.Stop Go.Extern Go.Proofs

/-- errors.As(nil, target). -/
theorem as_nil (t : Value) (w : World) :
    Calls Tryz.prog 63 #[.nilIface, t] w fun e w' => e = .returned (.bool false) ∧ w' = w := by
  go_enter Tryz.func63, Tryz.ntmps63
  go_wp2
  go_ret
  exact ⟨rfl, rfl⟩

theorem valueOfPP (t : Addr) (w : World) : (ReflectliteValue.unpack (.iface 133 (.pointer (some t)))).run Tryz.prog w
    = .ok (.agg #[.pointer (some ⟨21, 133, none⟩), .pointer (some ⟨w.heap.size, 0, none⟩), .int .u64 150]) (w.alloc (.cells #[.pointer (some t)] 133)) := by kernel_rfl
theorem typePP (a : Addr) (w : World) : (ReflectliteValue.methodAny (ReflectliteValue.valueError "reflectlite.Value.Type" 0) (fun t _ _ _ => ReflectliteType.toType t) #[.agg #[.pointer (some ⟨21, 133, none⟩), .pointer (some a), .int .u64 150]]).run Tryz.prog w
    = .ok (.iface 193 (.agg #[.pointer (some ⟨21, 133, none⟩)])) w := by kernel_rfl
theorem methodKind (h : Value) (w : World) : (Go.method 355 193 (.agg #[h]) "Kind").run Tryz.prog w = .ok (169, h) w := by kernel_rfl
theorem kindPP (w : World) : ((ReflectliteType.abiMethod fun t => (fun a : Nat => Value.int IntKind.u8 (a : Int)) <$> Rtype.kind t) #[.pointer (some ⟨21, 133, none⟩)]).run Tryz.prog w = .ok (.int .u8 22) w := by kernel_rfl
theorem kindP (w : World) : ((ReflectliteType.abiMethod fun t => (fun a : Nat => Value.int IntKind.u8 (a : Int)) <$> Rtype.kind t) #[.pointer (some ⟨21, 131, none⟩)]).run Tryz.prog w = .ok (.int .u8 22) w := by kernel_rfl

theorem rlm (z : Sem Value) (f : TypeId → Addr → Nat → Nat → Sem Value) (v : Value) :
    ReflectliteValue.method z f #[v] = (do match ← ReflectliteValue.parts v with | none => z | some (t, a, fl) => f t a fl (fl % 32)) := rfl
theorem partsPP (a : Addr) (w : World) : (ReflectliteValue.parts (.agg #[.pointer (some ⟨21, 133, none⟩), .pointer (some a), .int .u64 150])).run Tryz.prog w = .ok (some (133, a, 150)) w := by kernel_rfl
theorem isNilPP (a p : Addr) (W : World) (ha : W.cell? a = some (.pointer (some p))) :
    (ReflectliteValue.method (ReflectliteValue.valueError "reflectlite.Value.IsNil" 0) ReflectliteValue.isNil #[.agg #[.pointer (some ⟨21, 133, none⟩), .pointer (some a), .int .u64 150]]).run Tryz.prog W = .ok (.bool false) W := by
  rw [rlm]
  simp only [Sem.run_bind, partsPP, Result.andThen]
  simp [ReflectliteValue.isNil, loadVar, isAgg, underlying, Tryz.underlying133, ha, Result.andThen]

theorem methodElem (h : Value) (w : World) : (Go.method 355 193 (.agg #[h]) "Elem").run Tryz.prog w = .ok (180, .agg #[h]) w := by kernel_rfl
theorem methodImplements (h : Value) (w : World) : (Go.method 355 193 (.agg #[h]) "Implements").run Tryz.prog w = .ok (181, .agg #[h]) w := by kernel_rfl
theorem methodAssignableTo (h : Value) (w : World) : (Go.method 355 193 (.agg #[h]) "AssignableTo").run Tryz.prog w = .ok (178, .agg #[h]) w := by kernel_rfl
theorem elemPP (w : World) : (ReflectliteType.method ReflectliteType.elem #[.agg #[.pointer (some ⟨21, 133, none⟩)]]).run Tryz.prog w = .ok (.iface 193 (.agg #[.pointer (some ⟨21, 131, none⟩)])) w := by kernel_rfl
theorem implementsP (w : World) : (ReflectliteType.relation "Implements" ReflectliteType.implements_ #[.agg #[.pointer (some ⟨21, 131, none⟩)], .iface 193 (.agg #[.pointer (some ⟨21, 41, none⟩)])]).run Tryz.prog w = .ok (.bool true) w := by kernel_rfl
theorem typeOfP (v : Value) (w : World) : (ReflectliteType.typeOf #[.iface 131 v]).run Tryz.prog w = .ok (.iface 193 (.agg #[.pointer (some ⟨21, 131, none⟩)])) w := by kernel_rfl
theorem assignableP (w : World) : (ReflectliteType.relation "AssignableTo" ReflectliteType.assignableTo #[.agg #[.pointer (some ⟨21, 131, none⟩)], .iface 193 (.agg #[.pointer (some ⟨21, 131, none⟩)])]).run Tryz.prog w = .ok (.bool true) w := by kernel_rfl
theorem valueOfP (e : Addr) (w : World) : (ReflectliteValue.unpack (.iface 131 (.pointer (some e)))).run Tryz.prog w
    = .ok (.agg #[.pointer (some ⟨21, 131, none⟩), .pointer (some ⟨w.heap.size, 0, none⟩), .int .u64 150]) (w.alloc (.cells #[.pointer (some e)] 131)) := by kernel_rfl

theorem elemOfPP (w : World) : (Rtype.elem? 133).run Tryz.prog w = .ok (some 131) w := by kernel_rfl
theorem mkP (p : Addr) (w : World) : (ReflectliteValue.mk 131 p ReflectliteValue.flagAddr).run Tryz.prog w = .ok (.agg #[.pointer (some ⟨21, 131, none⟩), .pointer (some p), .int .u64 406]) w := by kernel_rfl
theorem elemVPP (a p : Addr) (W : World) (ha : W.cell? a = some (.pointer (some p))) :
    (ReflectliteValue.method (ReflectliteValue.valueError "reflectlite.Value.Elem" 0) ReflectliteValue.elem #[.agg #[.pointer (some ⟨21, 133, none⟩), .pointer (some a), .int .u64 150]]).run Tryz.prog W
      = .ok (.agg #[.pointer (some ⟨21, 131, none⟩), .pointer (some p), .int .u64 406]) W := by
  rw [rlm]
  simp only [Sem.run_bind, partsPP, Result.andThen]
  simp [ReflectliteValue.elem, loadVar, isAgg, underlying, Tryz.underlying133, ha, Result.andThen, elemOfPP, mkP]
theorem rls (v x : Value) : ReflectliteValue.set #[v, x] = (do
    let (some (dst, a, fl), some (src, b, _)) := (← ReflectliteValue.parts v, ← ReflectliteValue.parts x)
      | unsupported (.noEntry "extern/(internal/reflectlite.Value).Set.zeroValue")
    if fl / ReflectliteValue.flagAddr % 2 == 0 then unsupported (.noEntry "extern/(internal/reflectlite.Value).Set.unaddressable")
    let val ← loadVar src b
    if ← Rtype.directlyAssignable dst src then storeVar dst a val
    else if ← Rtype.implements dst src then
      if (← Rtype.kind src) == 20 then
        match val with
        | .nilIface => unsupported (.noEntry "extern/reflectlite: a nil value of one interface type handed on as a value of another")
        | _ => storeVar dst a val
      else storeVar dst a (.iface src val)
    else panicString ("reflectlite.Set: value of type " ++ (← Rtype.spelt src) ++ " is not assignable to type " ++ (← Rtype.spelt dst))
    pure (.tuple #[])) := rfl
theorem partsPa (a : Addr) (w : World) : (ReflectliteValue.parts (.agg #[.pointer (some ⟨21, 131, none⟩), .pointer (some a), .int .u64 406])).run Tryz.prog w = .ok (some (131, a, 406)) w := by kernel_rfl
theorem partsP (a : Addr) (w : World) : (ReflectliteValue.parts (.agg #[.pointer (some ⟨21, 131, none⟩), .pointer (some a), .int .u64 150])).run Tryz.prog w = .ok (some (131, a, 150)) w := by kernel_rfl
theorem directP (w : World) : (Rtype.directlyAssignable 131 131).run Tryz.prog w = .ok true w := by kernel_rfl
theorem sizeP (w : World) : (sizeOf 131).run Tryz.prog w = .ok 1 w := by kernel_rfl
theorem setP (ta b e : Addr) (old : Value) (W : World) (hb : W.cell? b = some (.pointer (some e))) (ht : W.cell? ta = some old) (hf : W.frozen? ta = false) :
    (ReflectliteValue.set #[.agg #[.pointer (some ⟨21, 131, none⟩), .pointer (some ta), .int .u64 406], .agg #[.pointer (some ⟨21, 131, none⟩), .pointer (some b), .int .u64 150]]).run Tryz.prog W
      = .ok (.tuple #[]) (W.setCell ta (.pointer (some e))) := by
  rw [rls]
  simp only [Sem.run_bind, partsPa, partsP, Result.andThen]
  simp [ReflectliteValue.flagAddr, loadVar, isAgg, underlying, Tryz.underlying131, hb, Result.andThen, directP, storeVar, Value.cells, storeCells, Addr.add]
  rw [run_store Tryz.prog W ta _ _ (by rfl)]
  simp [ht, hf]

set_option maxHeartbeats 4000000 in
theorem as_hit (e t : Addr) (old : Value) (w : World) (hg : w.cell? ⟨20, 0, none⟩ = some (.iface 193 (.agg #[.pointer (some ⟨21, 41, none⟩)]))) (ht0 : w.cell? t = some old) (hf0 : w.frozen? t = false) :
    Calls Tryz.prog 63 #[.iface 131 (.pointer (some e)), .iface 133 (.pointer (some t))] w fun ev w' => ev = .returned (.bool true) ∧ w' = ((((w.alloc (.cells #[.pointer (some t)] 133)).alloc (.cells #[.pointer (some ⟨21, 133, none⟩), .pointer (some ⟨w.heap.size, 0, none⟩), .int .u64 150] 171)).alloc (.cells #[.pointer (some ⟨21, 133, none⟩), .pointer (some ⟨w.heap.size, 0, none⟩), .int .u64 150] 171)).alloc (.cells #[.pointer (some e)] 131)).setCell t (.pointer (some e)) := by
  have h6 := @run_callFunc_extern Tryz.prog 101 _ (fun args => ReflectliteValue.unpack (args.getD 0 (.tuple #[]))) Tryz.func101 (by kernel_rfl) (by kernel_rfl) (by kernel_rfl) (by kernel_rfl)
  have h7 := @run_callFunc_extern Tryz.prog 102 _ (ReflectliteValue.methodAny (ReflectliteValue.valueError "reflectlite.Value.Type" 0) (fun t _ _ _ => ReflectliteType.toType t)) Tryz.func102 (by kernel_rfl) (by kernel_rfl) (by kernel_rfl) (by kernel_rfl)
  have h8 := @run_callFunc_extern Tryz.prog 103 _ (ReflectliteValue.method (ReflectliteValue.valueError "reflectlite.Value.IsNil" 0) ReflectliteValue.isNil) Tryz.func103 (by kernel_rfl) (by kernel_rfl) (by kernel_rfl) (by kernel_rfl)
  have h27 := @run_callFunc_extern Tryz.prog 169 _ (ReflectliteType.abiMethod fun t => do pure (.int .u8 (← Rtype.kind t))) Tryz.func169 (by kernel_rfl) (by kernel_rfl) (by kernel_rfl) (by kernel_rfl)
  have h37 := @run_callFunc_extern Tryz.prog 180 _ (ReflectliteType.method ReflectliteType.elem) Tryz.func180 (by kernel_rfl) (by kernel_rfl) (by kernel_rfl) (by kernel_rfl)
  have h38 := @run_callFunc_extern Tryz.prog 181 _ (ReflectliteType.relation "Implements" ReflectliteType.implements_) Tryz.func181 (by kernel_rfl) (by kernel_rfl) (by kernel_rfl) (by kernel_rfl)
  have h10 := @run_callFunc_extern Tryz.prog 99 _ ReflectliteType.typeOf Tryz.func99 (by kernel_rfl) (by kernel_rfl) (by kernel_rfl) (by kernel_rfl)
  have h35 := @run_callFunc_extern Tryz.prog 178 _ (ReflectliteType.relation "AssignableTo" ReflectliteType.assignableTo) Tryz.func178 (by kernel_rfl) (by kernel_rfl) (by kernel_rfl) (by kernel_rfl)
  have h11 := @run_callFunc_extern Tryz.prog 127 _ (ReflectliteValue.method (ReflectliteValue.valueError "reflectlite.Value.Elem" 0) ReflectliteValue.elem) Tryz.func127 (by kernel_rfl) (by kernel_rfl) (by kernel_rfl) (by kernel_rfl)
  have h12 := @run_callFunc_extern Tryz.prog 128 _ ReflectliteValue.set Tryz.func128 (by kernel_rfl) (by kernel_rfl) (by kernel_rfl) (by kernel_rfl)
  have tO := typeOfP
  have mA := methodAssignableTo
  have a25 := assignableP
  have v25 := valueOfP
  have f6 := valueOfPP
  have f7 := typePP
  have mK := methodKind
  have mE := methodElem
  have mI := methodImplements
  have k27 := kindPP
  have k25 := kindP
  have e27 := elemPP
  have i25 := implementsP
  have n8 := isNilPP ⟨w.heap.size, 0, none⟩ t ((w.alloc (.cells #[.pointer (some t)] 133)).alloc (.cells #[.pointer (some ⟨21, 133, none⟩), .pointer (some ⟨w.heap.size, 0, none⟩), .int .u64 150] 171)) (by simp)
  have hlt : 20 < w.heap.size := by
    rcases Nat.lt_or_ge 20 w.heap.size with h | h
    · exact h
    · simp [World.cell?, Array.getElem?_eq_none h] at hg
  have hg2 : ((w.alloc (.cells #[.pointer (some t)] 133)).alloc (.cells #[.pointer (some ⟨21, 133, none⟩), .pointer (some ⟨w.heap.size, 0, none⟩), .int .u64 150] 171)).cell? ⟨20, 0, none⟩ = some (.iface 193 (.agg #[.pointer (some ⟨21, 41, none⟩)])) := by
    rw [World.cell?_alloc_lt _ _ ⟨20, 0, none⟩ (by simp; omega), World.cell?_alloc_lt _ _ ⟨20, 0, none⟩ hlt]; exact hg
  have htl : t.block < w.heap.size := by
    rcases Nat.lt_or_ge t.block w.heap.size with h | h
    · exact h
    · simp [World.cell?, Array.getElem?_eq_none h] at ht0
  have el := elemVPP ⟨w.heap.size, 0, none⟩ t (((w.alloc (.cells #[.pointer (some t)] 133)).alloc (.cells #[.pointer (some ⟨21, 133, none⟩), .pointer (some ⟨w.heap.size, 0, none⟩), .int .u64 150] 171)).alloc (.cells #[.pointer (some ⟨21, 133, none⟩), .pointer (some ⟨w.heap.size, 0, none⟩), .int .u64 150] 171)) (by rw [World.cell?_alloc_lt _ _ ⟨w.heap.size, 0, none⟩ (by simp; omega)]; simp)
  have st := setP t ⟨w.heap.size + 1 + 1 + 1, 0, none⟩ e old ((((w.alloc (.cells #[.pointer (some t)] 133)).alloc (.cells #[.pointer (some ⟨21, 133, none⟩), .pointer (some ⟨w.heap.size, 0, none⟩), .int .u64 150] 171)).alloc (.cells #[.pointer (some ⟨21, 133, none⟩), .pointer (some ⟨w.heap.size, 0, none⟩), .int .u64 150] 171)).alloc (.cells #[.pointer (some e)] 131))
    (by rw [World.cell?_alloc_at _ _ _ _ (by simp)]; rfl)
    (by rw [World.cell?_alloc_lt _ _ t (by simp; omega), World.cell?_alloc_lt _ _ t (by simp; omega), World.cell?_alloc_lt _ _ t (by simp; omega), World.cell?_alloc_lt _ _ t htl]; exact ht0)
    (by rw [World.frozen?_alloc_old _ _ t (by simp; omega), World.frozen?_alloc_old _ _ t (by simp; omega), World.frozen?_alloc_old _ _ t (by simp; omega), World.frozen?_alloc_old _ _ t (Nat.ne_of_lt htl)]; exact hf0)
  go_enter Tryz.func63, Tryz.ntmps63
  go_wp2
  refine wp_loop_rounds 1 ?_
  rw [rounds_succ]
  go_wp2
  go_ret
  exact ⟨rfl, rfl⟩

theorem assignableE (w : World) : (ReflectliteType.relation "AssignableTo" ReflectliteType.assignableTo #[.agg #[.pointer (some ⟨21, 222, none⟩)], .iface 193 (.agg #[.pointer (some ⟨21, 131, none⟩)])]).run Tryz.prog w = .ok (.bool false) w := by kernel_rfl
theorem noAsE (v : Value) (xT : TypeId) (w : World) : (Instr.typeAssert (.iface 222 v) xT 205 true).run Tryz.prog w = .ok (.tuple #[.nilIface, .bool false]) w := run_typeAssert_lacksB Tryz.underlying205 (by kernel_rfl) (by kernel_rfl) v xT w
set_option maxHeartbeats 4000000 in
theorem as_bare (v : Value) (t : Addr) (w : World) (hg : w.cell? ⟨20, 0, none⟩ = some (.iface 193 (.agg #[.pointer (some ⟨21, 41, none⟩)]))) :
    Calls Tryz.prog 63 #[.iface 222 v, .iface 133 (.pointer (some t))] w fun ev w' => ev = .returned (.bool false) ∧ w' = ((w.alloc (.cells #[.pointer (some t)] 133)).alloc (.cells #[.pointer (some ⟨21, 133, none⟩), .pointer (some ⟨w.heap.size, 0, none⟩), .int .u64 150] 171)).alloc (.cells #[.pointer (some ⟨21, 133, none⟩), .pointer (some ⟨w.heap.size, 0, none⟩), .int .u64 150] 171) := by
  have h6 := @run_callFunc_extern Tryz.prog 101 _ (fun args => ReflectliteValue.unpack (args.getD 0 (.tuple #[]))) Tryz.func101 (by kernel_rfl) (by kernel_rfl) (by kernel_rfl) (by kernel_rfl)
  have h7 := @run_callFunc_extern Tryz.prog 102 _ (ReflectliteValue.methodAny (ReflectliteValue.valueError "reflectlite.Value.Type" 0) (fun t _ _ _ => ReflectliteType.toType t)) Tryz.func102 (by kernel_rfl) (by kernel_rfl) (by kernel_rfl) (by kernel_rfl)
  have h8 := @run_callFunc_extern Tryz.prog 103 _ (ReflectliteValue.method (ReflectliteValue.valueError "reflectlite.Value.IsNil" 0) ReflectliteValue.isNil) Tryz.func103 (by kernel_rfl) (by kernel_rfl) (by kernel_rfl) (by kernel_rfl)
  have h27 := @run_callFunc_extern Tryz.prog 169 _ (ReflectliteType.abiMethod fun t => do pure (.int .u8 (← Rtype.kind t))) Tryz.func169 (by kernel_rfl) (by kernel_rfl) (by kernel_rfl) (by kernel_rfl)
  have h37 := @run_callFunc_extern Tryz.prog 180 _ (ReflectliteType.method ReflectliteType.elem) Tryz.func180 (by kernel_rfl) (by kernel_rfl) (by kernel_rfl) (by kernel_rfl)
  have h38 := @run_callFunc_extern Tryz.prog 181 _ (ReflectliteType.relation "Implements" ReflectliteType.implements_) Tryz.func181 (by kernel_rfl) (by kernel_rfl) (by kernel_rfl) (by kernel_rfl)
  have h10 := @run_callFunc_extern Tryz.prog 99 _ ReflectliteType.typeOf Tryz.func99 (by kernel_rfl) (by kernel_rfl) (by kernel_rfl) (by kernel_rfl)
  have h35 := @run_callFunc_extern Tryz.prog 178 _ (ReflectliteType.relation "AssignableTo" ReflectliteType.assignableTo) Tryz.func178 (by kernel_rfl) (by kernel_rfl) (by kernel_rfl) (by kernel_rfl)
  have tO := isTypeOf
  have mA := methodAssignableTo
  have a25 := assignableE
  have nA := noAsE
  have uE := noUnwrapE
  have vE := noUnwrapsE
  have f6 := valueOfPP
  have f7 := typePP
  have mK := methodKind
  have mE := methodElem
  have mI := methodImplements
  have k27 := kindPP
  have k25 := kindP
  have e27 := elemPP
  have i25 := implementsP
  have n8 := isNilPP ⟨w.heap.size, 0, none⟩ t ((w.alloc (.cells #[.pointer (some t)] 133)).alloc (.cells #[.pointer (some ⟨21, 133, none⟩), .pointer (some ⟨w.heap.size, 0, none⟩), .int .u64 150] 171)) (by simp)
  have hlt : 20 < w.heap.size := by
    rcases Nat.lt_or_ge 20 w.heap.size with h | h
    · exact h
    · simp [World.cell?, Array.getElem?_eq_none h] at hg
  have hg2 : ((w.alloc (.cells #[.pointer (some t)] 133)).alloc (.cells #[.pointer (some ⟨21, 133, none⟩), .pointer (some ⟨w.heap.size, 0, none⟩), .int .u64 150] 171)).cell? ⟨20, 0, none⟩ = some (.iface 193 (.agg #[.pointer (some ⟨21, 41, none⟩)])) := by
    rw [World.cell?_alloc_lt _ _ ⟨20, 0, none⟩ (by simp; omega), World.cell?_alloc_lt _ _ ⟨20, 0, none⟩ hlt]; exact hg
  go_enter Tryz.func63, Tryz.ntmps63
  go_wp2
  refine wp_loop_rounds 1 ?_
  rw [rounds_succ]
  go_wp2
  go_ret
  exact ⟨rfl, rfl⟩

theorem place_nil (w : World) : Calls Tryz.prog 24 #[.nilIface] w fun e w' => e = .returned (.int .i64 (-1)) ∧ w' = w.alloc (.cells #[.pointer none] 131) := by
  go_enter Tryz.func24, Tryz.ntmps24
  go_wp2_with (go_at_call 63; refine (as_nil _ _).mono ?_; rintro e w' ⟨rfl, rfl⟩)
  go_ret
  exact ⟨rfl, rfl⟩
theorem place_bare (v : Value) (w : World) (hg : w.cell? ⟨20, 0, none⟩ = some (.iface 193 (.agg #[.pointer (some ⟨21, 41, none⟩)]))) :
    Calls Tryz.prog 24 #[.iface 222 v] w fun e w' => e = .returned (.int .i64 (-1)) ∧ Below w.heap.size w w' := by
  have hlt : 20 < w.heap.size := by
    rcases Nat.lt_or_ge 20 w.heap.size with h | h
    · exact h
    · simp [World.cell?, Array.getElem?_eq_none h] at hg
  have hgA : (w.alloc (.cells #[.pointer none] 131)).cell? ⟨20, 0, none⟩ = some (.iface 193 (.agg #[.pointer (some ⟨21, 41, none⟩)])) := by
    rw [World.cell?_alloc_lt _ _ ⟨20, 0, none⟩ hlt]; exact hg
  go_enter Tryz.func24, Tryz.ntmps24
  go_wp2_with (go_at_call 63; refine (as_bare _ _ _ hgA).mono ?_; rintro e w' ⟨rfl, rfl⟩)
  go_ret
  exact ⟨rfl, ((((Below.refl _ _).alloc (Nat.le_refl _) _).alloc (by simp <;> omega) _).alloc (by simp <;> omega) _).alloc (by simp <;> omega) _⟩
set_option maxHeartbeats 4000000 in
theorem place_at (pb po : Nat) (pl : Int) (w : World) (hpl : w.cell? ⟨pb, po, none⟩ = some (.int .i64 pl)) (hg : w.cell? ⟨20, 0, none⟩ = some (.iface 193 (.agg #[.pointer (some ⟨21, 41, none⟩)]))) :
    Calls Tryz.prog 24 #[.iface 131 (.pointer (some ⟨pb, po, none⟩))] w fun e w' => e = .returned (.int .i64 pl) ∧ Below w.heap.size w w' := by
  have hlt : 20 < w.heap.size := by
    rcases Nat.lt_or_ge 20 w.heap.size with h | h
    · exact h
    · simp [World.cell?, Array.getElem?_eq_none h] at hg
  have hpb : pb < w.heap.size := World.block_lt_of_cell? _ _ hpl
  have hgA : (w.alloc (.cells #[.pointer none] 131)).cell? ⟨20, 0, none⟩ = some (.iface 193 (.agg #[.pointer (some ⟨21, 41, none⟩)])) := by
    rw [World.cell?_alloc_lt _ _ ⟨20, 0, none⟩ hlt]; exact hg
  have htA : (w.alloc (.cells #[.pointer none] 131)).cell? ⟨w.heap.size, 0, none⟩ = some (.pointer none) := by simp
  have hfA : (w.alloc (.cells #[.pointer none] 131)).frozen? ⟨w.heap.size, 0, none⟩ = false := by simp
  have hp5 : ∀ a b c d e, (((((w.alloc a).alloc b).alloc c).alloc d).alloc e).cell? ⟨pb, po, none⟩ = some (.int .i64 pl) := fun a b c d e => by
    rw [World.cell?_alloc_lt _ _ ⟨pb, po, none⟩ (by simp; omega), World.cell?_alloc_lt _ _ ⟨pb, po, none⟩ (by simp; omega), World.cell?_alloc_lt _ _ ⟨pb, po, none⟩ (by simp; omega), World.cell?_alloc_lt _ _ ⟨pb, po, none⟩ (by simp; omega), World.cell?_alloc_lt _ _ ⟨pb, po, none⟩ hpb]; exact hpl
  go_enter Tryz.func24, Tryz.ntmps24
  go_wp2_with (go_at_call 63; refine (as_hit _ _ (.pointer none) _ hgA htA hfA).mono ?_; rintro e w' ⟨rfl, rfl⟩)
  go_ret
  exact ⟨rfl, (((((Below.refl _ _).alloc (Nat.le_refl _) _).alloc (by simp <;> omega) _).alloc (by simp <;> omega) _).alloc (by simp <;> omega) _).alloc (by simp <;> omega) _⟩
end Go.Proofs.YtndoembhbfiokaaGreatDoor.Am
set_option linter.unusedVariables false
set_option linter.unusedSimpArgs false
namespace Go.Proofs.YtndoembhbfiokaaGreatDoor.Am
open Go.RowKit Go.Proofs

theorem clone_spec {X : Ctx} (hP : X.P = Tryz.prog) (l : List UInt8) (hl : l.length ≤ 1073741824) : ACalc X 93 [.fsl (l.map encB)] (.fsl (l.map encB)) := by
  intro H
  refine acalls (N := 8) (rs := [.tmp 2]) (by rw [hP]; exact Tryz.func93) rfl rfl rfl (by decide) (by simp) ?_
  refine AWp.seq (aC_sound (lv := []) _ _ _ _ ?_)
  simp [entryR]
  refine AWp.seq (AWp.isNil (.fsl (l.map encB)) rfl rfl (e := 5) (by rw [hP]; exact Tryz.underlying28) (by decide) (by decide) fun b hb => aC_sound (lv := []) _ _ _ _ ?_)
  cases b with
  | true =>
    obtain rfl : l = [] := by
      cases l with
      | nil => rfl
      | cons x l => simp at hb
    simp
    exact Leave.le (v' := .fsl []) (Le.csl []) (Leave.data (keeps_refl H) (by simp) (by simp))
  | false =>
    simp
    refine aC_sound (lv := []) _ _ _ _ ?_
    simp [hP, show l.length ≤ 140737488355328 by omega]
    exact Leave.data (keeps_refl H) (by simp) (by simp)
theorem clone_live {X : Ctx} (hP : X.P = Tryz.prog) {H : AH} {id ver : Nat} (l : List UInt8) (hH : H.get id = .row (l.map encB) 1 ver) (hl : l.length ≤ 1073741824) :
    ACalls X 93 [.sl id ver 0 l.length] H fun v H' => v = .fsl (l.map encB) ∧ H' = H := by
  refine acalls (N := 8) (rs := [.tmp 2]) (by rw [hP]; exact Tryz.func93) rfl rfl rfl (by decide) (by simp) ?_
  refine AWp.seq (aC_sound (lv := []) _ _ _ _ ?_)
  simp [entryR]
  refine AWp.seq (AWp.isNil (.sl id ver 0 l.length) rfl rfl (e := 5) (by rw [hP]; exact Tryz.underlying28) (by decide) (by decide) fun b hb => aC_sound (lv := []) _ _ _ _ ?_)
  cases b with
  | true =>
    obtain rfl : l = [] := by
      cases l with
      | nil => rfl
      | cons x l => simp at hb
    simp
    exact Leave.le (v' := .fsl []) (Le.csl []) (Leave.data (keeps_refl H) (by simp) (by simp))
  | false =>
    simp
    refine aC_sound (lv := []) _ _ _ _ ?_
    simp [hP, hH, show l.length ≤ 140737488355328 by omega, List.take_of_length_le]
    exact Leave.data (keeps_refl H) (by simp) (by simp)
end Go.Proofs.YtndoembhbfiokaaGreatDoor.Am
set_option linter.unusedVariables false
set_option linter.unusedSimpArgs false
namespace Go.Proofs.YtndoembhbfiokaaGreatDoor.Am
open Go.RowKit Go.Proofs

structure RecD where
  tag : Int
  body : List UInt8
def encBytes (l : List UInt8) : AV := .fsl (l.map encB)
def encRec (r : RecD) : AV := .agg [.int .i64 r.tag, encBytes r.body]
@[simp] theorem encBytes_data (l : List UInt8) : (encBytes l).Data := by simp [encBytes]
@[simp] theorem encBytes_one (l : List UInt8) : (encBytes l).one = true := rfl
@[simp] theorem encBytes_good (l : List UInt8) : (encBytes l).good = true := rfl
@[simp] theorem encBytes_cells (l : List UInt8) : (encBytes l).cells = [encBytes l] := rfl
@[simp] theorem encRec_data (r : RecD) : (encRec r).Data := by simp [encRec]

end Go.Proofs.YtndoembhbfiokaaGreatDoor.Am
set_option linter.unusedVariables false
set_option linter.unusedSimpArgs false
namespace Go.Proofs.YtndoembhbfiokaaGreatDoor.Am
open Go.RowKit Go.Proofs

/-- An error of the program: none, a sentinel, a sentinel with its place. -/
inductive PE where
  | none
  | bare (g : Nat)
  | at (p : Int) (g : Nat)
  deriving DecidableEq
def sentV (c : Nat) : AV := .iface 222 (.opq c)
def encErr : PE → AV
  | .none => .nili
  | .bare g => sentV g
  | .at p g => .iface 131 (.eptr [.agg [.int .i64 p, sentV g]] 0 0)
/-- The package variables that hold errors, and their codes. -/
def sents : List (Nat × Nat) := [(2, 1), (3, 2), (4, 3), (1, 4), (5, 5), (6, 6), (7, 7), (0, 8), (8, 9), (9, 10), (12, 11), (10, 12), (13, 13), (14, 14), (15, 15), (16, 16), (11, 17), (17, 18), (18, 19), (19, 20)]
/-- What the memory holds of them. -/
structure SentOK (ρ : Nat → Value) (w : World) : Prop where
  var : ∀ g c, (g, c) ∈ sents → w.cell? ⟨g, 0, none⟩ = some (.iface 222 (ρ c))
  ptr : ∀ g c, (g, c) ∈ sents → ∃ a ca ta, ρ c = .pointer (some a) ∧ w.heap[a.block]? = some (.cells ca ta (0, 0))
  ne : ∀ g c g' c', (g, c) ∈ sents → (g', c') ∈ sents → c ≠ c' → ρ c ≠ ρ c'
  ety : w.cell? ⟨20, 0, none⟩ = some (.iface 193 (.agg #[.pointer (some ⟨21, 41, none⟩)]))
structure Sent (X : Ctx) : Prop where
  P : X.P = Tryz.prog
  g : ∀ g c, (g, c) ∈ sents → X.Γ g = some (sentV c)
  ok : ∀ ρ w, X.ok ρ w → SentOK ρ w
theorem Sent.e1 {X : Ctx} (h : Sent X) : X.Γ 2 = some (sentV 1) := h.g _ _ (by decide)
theorem Sent.e2 {X : Ctx} (h : Sent X) : X.Γ 3 = some (sentV 2) := h.g _ _ (by decide)
theorem Sent.e3 {X : Ctx} (h : Sent X) : X.Γ 4 = some (sentV 3) := h.g _ _ (by decide)
theorem Sent.e4 {X : Ctx} (h : Sent X) : X.Γ 1 = some (sentV 4) := h.g _ _ (by decide)
theorem Sent.e5 {X : Ctx} (h : Sent X) : X.Γ 5 = some (sentV 5) := h.g _ _ (by decide)
theorem Sent.e6 {X : Ctx} (h : Sent X) : X.Γ 6 = some (sentV 6) := h.g _ _ (by decide)
theorem Sent.e7 {X : Ctx} (h : Sent X) : X.Γ 7 = some (sentV 7) := h.g _ _ (by decide)
theorem Sent.e8 {X : Ctx} (h : Sent X) : X.Γ 0 = some (sentV 8) := h.g _ _ (by decide)
theorem Sent.e9 {X : Ctx} (h : Sent X) : X.Γ 8 = some (sentV 9) := h.g _ _ (by decide)
theorem Sent.e10 {X : Ctx} (h : Sent X) : X.Γ 9 = some (sentV 10) := h.g _ _ (by decide)
theorem Sent.e11 {X : Ctx} (h : Sent X) : X.Γ 12 = some (sentV 11) := h.g _ _ (by decide)
theorem Sent.e12 {X : Ctx} (h : Sent X) : X.Γ 10 = some (sentV 12) := h.g _ _ (by decide)
theorem Sent.e13 {X : Ctx} (h : Sent X) : X.Γ 13 = some (sentV 13) := h.g _ _ (by decide)
theorem Sent.e14 {X : Ctx} (h : Sent X) : X.Γ 14 = some (sentV 14) := h.g _ _ (by decide)
theorem Sent.e15 {X : Ctx} (h : Sent X) : X.Γ 15 = some (sentV 15) := h.g _ _ (by decide)
theorem Sent.e16 {X : Ctx} (h : Sent X) : X.Γ 16 = some (sentV 16) := h.g _ _ (by decide)
theorem Sent.e17 {X : Ctx} (h : Sent X) : X.Γ 11 = some (sentV 17) := h.g _ _ (by decide)
theorem Sent.e18 {X : Ctx} (h : Sent X) : X.Γ 17 = some (sentV 18) := h.g _ _ (by decide)
theorem Sent.e19 {X : Ctx} (h : Sent X) : X.Γ 18 = some (sentV 19) := h.g _ _ (by decide)
theorem Sent.e20 {X : Ctx} (h : Sent X) : X.Γ 19 = some (sentV 20) := h.g _ _ (by decide)

@[simp] theorem sentV_data (g : Nat) : (sentV g).Data := by simp [sentV]
@[simp] theorem encErr_data (e : PE) : (encErr e).Data := by cases e <;> simp [encErr]
@[simp] theorem encErr_cells (e : PE) : (encErr e).cells = [encErr e] := by cases e <;> rfl
@[simp] theorem encErr_good (e : PE) : (encErr e).good = true := by cases e <;> rfl
@[simp] theorem encErr_one (e : PE) : (encErr e).one = true := by cases e <;> rfl
@[simp] theorem sentV_cells (g : Nat) : (sentV g).cells = [sentV g] := rfl
@[simp] theorem sentV_good (g : Nat) : (sentV g).good = true := rfl
@[simp] theorem sentV_one (g : Nat) : (sentV g).one = true := rfl

theorem at_spec {X : Ctx} (hS : Sent X) (p : Int) (g : Nat) : ACalc X 140 [.int .i64 p, sentV g] (encErr (.at p g)) := by
  intro H
  refine acalls' (N := 10) (rs := [.tmp 4]) [] (by rw [hS.P]; exact Tryz.func140) rfl rfl rfl (by decide) (by simp) ?_
  simp [entryR, hS.P]
  refine Leave.frz (id := H.nx) (AH.get_put_same _ _ _) (.iface _ _ _ (.ptr 0 0)) ?_
  refine Leave.data (put_keeps (by simp) (put_keeps (by simp) (keeps_refl H))) (by simp) (by simp [encErr])

/-- A writer. -/
structure WSt where
  ver : Nat
  data : List UInt8
  err : PE
def WSt.slot (s : WSt) (ib : Nat) : Slot := .row [.agg [.sl ib s.ver 0 s.data.length, encErr s.err]] 2 0
def WSt.buf (s : WSt) : Slot := .row (s.data.map encB) 1 s.ver
structure WS (H : AH) (iw ib : Nat) (s : WSt) : Prop where
  w : H.get iw = s.slot ib
  b : H.get ib = s.buf
  ne : iw ≠ ib
def wwr (iw ib : Nat) (s : WSt) : List (Nat × Slot) := [(ib, s.buf), (iw, s.slot ib)]
theorem WS.upd {H : AH} {iw ib : Nat} {s : WSt} (h : WS H iw ib s) (t : WSt) : WS (H.upd (wwr iw ib t)) iw ib t := ⟨by simp [wwr], by simp [wwr, h.ne.symm], h.ne⟩
theorem WS.same {H : AH} {iw ib : Nat} {s : WSt} (h : WS H iw ib s) : H.upd (wwr iw ib s) = H := by
  have h1 := AH.lt_nx (H := H) (i := iw) (by rw [h.w]; simp [WSt.slot])
  have h2 := AH.lt_nx (H := H) (i := ib) (by rw [h.b]; simp [WSt.buf])
  refine AH.ext' (by simp [wwr, h1, h2]) fun i => ?_
  simp only [wwr, AH.upd_cons, upd_nil, AH.get_put]
  split
  · rename_i e; subst e; exact h.w.symm
  · split
    · rename_i e; subst e; exact h.b.symm
    · rfl
theorem WS.upd_upd {H : AH} {iw ib : Nat} {s : WSt} (h : WS H iw ib s) (t u : WSt) : (H.upd (wwr iw ib t)).upd (wwr iw ib u) = H.upd (wwr iw ib u) := by
  have h1 := AH.lt_nx (H := H) (i := iw) (by rw [h.w]; simp [WSt.slot])
  have h2 := AH.lt_nx (H := H) (i := ib) (by rw [h.b]; simp [WSt.buf])
  refine AH.ext' (by simp only [wwr, AH.upd_cons, upd_nil, AH.nx_put, h1, h2, if_true]) fun i => ?_
  simp only [wwr, AH.upd_cons, upd_nil, AH.get_put]
  split
  · rfl
  · split <;> rfl
/-- A call that turns a writer's state. -/
def WTurn (X : Ctx) (f : FuncId) (iw ib : Nat) (args : List AV) (s s' : WSt) : Prop := ∀ H, WS H iw ib s → ACalls X f args H fun v H' => v = .tup [] ∧ H' = H.upd (wwr iw ib s')
theorem WTurn.call {X : Ctx} {f : FuncId} {iw ib : Nat} {args : List AV} {s s' : WSt} (h : WTurn X f iw ib args s s') {H : AH} (hW : WS H iw ib s) {K : Post} (hK : K (.tup []) [iw, ib] (wwr iw ib s')) : aCall X f args H K :=
  ⟨.tup [], [iw, ib], wwr iw ib s', hK, fun i t h => by simp [wwr] at h; rcases h with ⟨rfl, _⟩ | ⟨rfl, _⟩ <;> simp, fun H' hH => h H' ⟨(hH iw (by simp)).trans hW.w, (hH ib (by simp)).trans hW.b, hW.ne⟩⟩

theorem WTurn.go {X : Ctx} {f : FuncId} {iw ib : Nat} {args : List AV} {s s' : WSt} (h : WTurn X f iw ib args s s') {H : AH} (hW : WS H iw ib s) {K : AV → AH → Prop} (hK : K (.tup []) (H.upd (wwr iw ib s'))) : ACalls X f args H K :=
  (h H hW).mono fun v H' ⟨h1, h2⟩ => by subst h1 h2; exact hK
def WSt.put (s : WSt) (b : List UInt8) : WSt :=
  match s.err with
  | .none => ⟨s.ver + 1, s.data ++ b, .none⟩
  | _ => s

theorem wput_spec {X : Ctx} (hS : Sent X) (iw ib : Nat) (s : WSt) (b : List UInt8) (x : AV) (hx : x = .fsl (b.map encB) ∨ x = .csl (b.map encB)) (hl : s.data.length + b.length ≤ 1073741824) : WTurn X 94 iw ib [.ptr iw 0 0 0, x] s (s.put b) := by
  intro H hW
  refine acalls' (N := 18) (rs := []) [] (by rw [hS.P]; exact Tryz.func94) rfl rfl rfl (by decide) (by simp) ?_
  rcases hx with rfl | rfl
  all_goals
    simp [entryR, hS.P, hW.w, WSt.slot]
    cases he : s.err with
    | none =>
      simp [encErr, hS.P, hW.w, WSt.slot, hW.b, WSt.buf]
      refine aIf_mk (by omega) ?_
      simp [hW.w, hW.b, WSt.slot, hW.ne, hS.P, he, encErr]
      refine Leave.stay ⟨rfl, ?_⟩
      simp [wwr, WSt.put, he, WSt.slot, WSt.buf, encErr]
    | bare g =>
      simp [encErr, hS.P, sentV]
      refine Leave.stay ⟨rfl, ?_⟩
      rw [show s.put b = s by simp [WSt.put, he], hW.same]
    | «at» p g =>
      simp [encErr, hS.P]
      refine Leave.stay ⟨rfl, ?_⟩
      rw [show s.put b = s by simp [WSt.put, he], hW.same]
end Go.Proofs.YtndoembhbfiokaaGreatDoor.Am
set_option linter.unusedVariables false
set_option linter.unusedSimpArgs false
namespace Go.Proofs.YtndoembhbfiokaaGreatDoor.Am
open Go.RowKit Go.Proofs

def mostOf (k : Nat) : Int := 2 ^ (8 * k) - 1
theorem most_spec {X : Ctx} (hS : Sent X) (k : Nat) (hk : k ≤ 4) : ACalc X 124 [.int .i64 k] (.int .i64 (mostOf k)) := by
  intro H
  refine acalls' (N := 7) (rs := [.tmp 2]) [] (by rw [hS.P]; exact Tryz.func124) rfl rfl rfl (by decide) (by simp) ?_
  have h0 : k = 0 ∨ k = 1 ∨ k = 2 ∨ k = 3 ∨ k = 4 := by omega
  rcases h0 with rfl | rfl | rfl | rfl | rfl
  all_goals
    simp [entryR, wrap64, IntKind.bits]
    exact Leave.data (keeps_refl H) (by simp) (by simp [mostOf])

def WSt.spoil (s : WSt) (g : Nat) : WSt :=
  match s.err with
  | .none => ⟨s.ver, s.data, .at s.data.length g⟩
  | _ => s
theorem spoil_spec {X : Ctx} (hS : Sent X) (iw ib : Nat) (s : WSt) (g : Nat) : WTurn X 125 iw ib [.ptr iw 0 0 0, sentV g] s (s.spoil g) := by
  intro H hW
  refine acalls' (N := 19) (rs := []) [] (by rw [hS.P]; exact Tryz.func125) rfl rfl rfl (by decide) (by simp) ?_
  simp [entryR, hS.P, hW.w, WSt.slot]
  cases he : s.err with
  | none =>
    simp [encErr, hS.P, hW.w, WSt.slot, hW.b, WSt.buf]
    refine (at_spec hS _ g).go ?_
    simp [hW.w, hW.b, WSt.slot, hW.ne, hS.P, he, encErr]
    refine Leave.stay ⟨rfl, ?_⟩
    have hb : H.put ib s.buf = H := AH.put_self hW.b (by simp [WSt.buf])
    simp [wwr, WSt.spoil, he, WSt.slot, encErr]
    rw [show (WSt.buf ⟨s.ver, s.data, .at s.data.length g⟩) = s.buf from rfl, hb]
  | bare g =>
    simp [encErr, hS.P, sentV]
    refine Leave.stay ⟨rfl, ?_⟩
    rw [show s.spoil _ = s by simp [WSt.spoil, he], hW.same]
  | «at» p g =>
    simp [encErr, hS.P]
    refine Leave.stay ⟨rfl, ?_⟩
    rw [show s.spoil _ = s by simp [WSt.spoil, he], hW.same]

def byteAt (n : Int) (j : Nat) : UInt8 := UInt8.ofNat ((n.fdiv (2 ^ (8 * j))) % 256).toNat
theorem encB_wrap (z : Int) : AV.int .u8 (IntKind.u8.wrap z) = encB (UInt8.ofNat (z % 256).toNat) := by
  rw [wrapu8_mod]
  have h1 : 0 ≤ z % 256 := Int.emod_nonneg _ (by decide)
  have h2 : z % 256 < 256 := Int.emod_lt_of_pos _ (by decide)
  simp only [encB, UInt8.toNat_ofNat']
  congr 1
  omega
def WSt.puts (s : WSt) (n : Int) : Nat → WSt
  | 0 => s
  | k + 1 => WSt.puts (s.put [byteAt n k]) n k
def WSt.num (s : WSt) (n : Int) (k : Nat) : WSt := if n < 0 ∨ mostOf k < n then s.spoil 4 else s.puts n k
theorem put_len (s : WSt) (b : List UInt8) : (s.put b).data.length ≤ s.data.length + b.length := by
  unfold WSt.put; split <;> simp
theorem num_spec {X : Ctx} (hS : Sent X) (iw ib : Nat) (s : WSt) (n : Int) (k : Nat) (hk : k = 1 ∨ k = 2 ∨ k = 4) (hl : s.data.length + k ≤ 1073741824) : WTurn X 95 iw ib [.ptr iw 0 0 0, .int .i64 n, .int .i64 k] s (s.num n k) := by
  intro H hW
  refine acalls' (N := 32) (rs := []) [] (by rw [hS.P]; exact Tryz.func95) rfl rfl rfl (by decide) (by simp) ?_
  simp [entryR, hS.P]
  refine aGuard_decf (fun h0 => ?_) (fun h0 => ?_)
  · simp [h0, hS.P, hS.e4]
    refine (spoil_spec hS iw ib s 4).go hW ?_
    simp
    refine Leave.stay ⟨rfl, ?_⟩
    simp [WSt.num, h0]
  · simp [hS.P, h0]
    refine (most_spec hS k (by omega)).go ?_
    simp [h0]
    refine aCond_dec (fun h1 => ?_) (fun h1 => ?_)
    · simp [hS.P, hS.e4]
      refine (spoil_spec hS iw ib s 4).go hW ?_
      simp
      refine Leave.stay ⟨rfl, ?_⟩
      simp [WSt.num, h1]
    · have e1 : IntKind.i64.wrap ((k : Int) - 1) = (k : Int) - 1 := wrap64 (by omega) (by omega)
      simp [e1]
      refine AWp.loop (S := Nat × WSt) (fun p => p.1 ≤ k ∧ p.2.puts n p.1 = s.puts n k ∧ p.2.data.length + p.1 ≤ s.data.length + k) (fun p => [(0, .ptr iw 0 0 0), (1, .int .i64 n), (6, .int .i64 ((p.1 : Int) - 1))])
        (fun p => H.upd (wwr iw ib p.2)) (fun p => p.1) (k, s) ⟨Nat.le_refl _, rfl, Nat.le_refl _⟩ ?_ fun p hp => ?_
      · simp only [hW.same]
        exact Wk.regs (by simp)
      · obtain ⟨j, u⟩ := p
        obtain ⟨hj, hu, hlen⟩ := hp
        simp only at hj hu hlen
        refine aC_sound (lv := []) _ _ _ _ ?_
        simp
        refine aCond_dec (fun hge => ?_) (fun hge => ?_)
        · obtain ⟨i, rfl⟩ : ∃ i, j = i + 1 := ⟨j - 1, by omega⟩
          have e2 : IntKind.i64.wrap (8 * (i : Int)) = 8 * (i : Int) := wrap64 (by omega) (by omega)
          have e3 : min (8 * i) 64 = 8 * i := by omega
          have e4 : (8 * (i : Int)).toNat = 8 * i := by omega
          have e5 : (0 : Int) ≤ 8 * (i : Int) := by omega
          have e6 : IntKind.i64.wrap ((i : Int) - 1) = (i : Int) - 1 := wrap64 (by omega) (by omega)
          simp [hS.P, IntKind.bits, e2, e3, e4, e5, encB_wrap]
          refine (wput_spec hS iw ib u [byteAt n i] _ (.inr rfl) (by simp; omega)).go (hW.upd u) ?_
          simp [e6, hW.upd_upd]
          refine ⟨i, u.put [byteAt n i], ⟨by omega, hu, ?_⟩, by omega, ?_⟩
          · have := put_len u [byteAt n i]; simp at this; omega
          · exact Wk.regs (by simp)
        · simp
          obtain rfl : j = 0 := by omega
          refine Leave.stay ⟨rfl, ?_⟩
          simp only [WSt.puts] at hu
          simp [WSt.num, h0, h1, hu]
end Go.Proofs.YtndoembhbfiokaaGreatDoor.Am
set_option linter.unusedVariables false
set_option linter.unusedSimpArgs false
namespace Go.Proofs.YtndoembhbfiokaaGreatDoor.Am
open Go.RowKit Go.Proofs

theorem puts_len (n : Int) : ∀ (k : Nat) (s : WSt), (s.puts n k).data.length ≤ s.data.length + k
  | 0, s => by simp [WSt.puts]
  | k + 1, s => by
    have h1 := puts_len n k (s.put [byteAt n k])
    have h2 := put_len s [byteAt n k]
    simp only [WSt.puts]
    simp at h2
    omega
theorem spoil_len (s : WSt) (g : Nat) : (s.spoil g).data.length = s.data.length := by unfold WSt.spoil; split <;> rfl
theorem num_len (s : WSt) (n : Int) (k : Nat) : (s.num n k).data.length ≤ s.data.length + k := by
  unfold WSt.num; split
  · rw [spoil_len]; omega
  · exact puts_len n k s

def WSt.rcd (s : WSt) (tag : Int) (body : List UInt8) : WSt :=
  if tag < 1 ∨ 255 < tag then s.spoil 3 else if 65535 < body.length then s.spoil 5 else ((s.num tag 1).num body.length 2).put body

theorem rcd_len (s : WSt) (tag : Int) (body : List UInt8) : (s.rcd tag body).data.length ≤ s.data.length + body.length + 3 := by
  unfold WSt.rcd; split
  · rw [spoil_len]; omega
  · split
    · rw [spoil_len]; omega
    · have h1 := put_len ((s.num tag 1).num body.length 2) body
      have h2 := num_len (s.num tag 1) body.length 2
      have h3 := num_len s tag 1
      omega

theorem rcd_spec {X : Ctx} (hS : Sent X) (iw ib : Nat) (s : WSt) (tag : Int) (body : List UInt8) (hl : s.data.length + body.length + 3 ≤ 1073741824) :
    WTurn X 123 iw ib [.ptr iw 0 0 0, .int .i64 tag, .fsl (body.map encB)] s (s.rcd tag body) := by
  intro H hW
  refine acalls' (N := 34) (rs := []) [] (by rw [hS.P]; exact Tryz.func123) rfl rfl rfl (by decide) (by simp) ?_
  have tail : ∀ (r : Regs), 255 < tag ∨ tag < 1 → aC X 34 [] Code.skip r H (fnQ X [] H fun v H' => v = .tup [] ∧ H' = H.upd (wwr iw ib (s.rcd tag body))) → True := fun _ _ _ => trivial
  simp [entryR, hS.P]
  refine aGuard_decf (fun h0 => ?_) (fun h0 => ?_)
  · simp [h0, hS.P, hS.e3]
    refine (spoil_spec hS iw ib s 3).go hW ?_
    simp
    refine Leave.stay ⟨rfl, ?_⟩
    simp [WSt.rcd, h0]
  · simp [hS.P, h0]
    refine (most_spec hS 1 (by omega)).go ?_
    simp [h0, mostOf]
    refine aCond_dec (fun h1 => ?_) (fun h1 => ?_)
    · simp [hS.P, hS.e3]
      refine (spoil_spec hS iw ib s 3).go hW ?_
      simp
      refine Leave.stay ⟨rfl, ?_⟩
      simp [WSt.rcd, h1]
    · simp [hS.P]
      refine aCond_dec (fun h2 => ?_) (fun h2 => ?_)
      · simp [hS.P, hS.e5]
        refine (spoil_spec hS iw ib s 5).go hW ?_
        simp
        refine Leave.stay ⟨rfl, ?_⟩
        have h2' : 65535 < body.length := by omega
        simp [WSt.rcd, h0, h1, h2']
      · simp [hS.P]
        refine (num_spec hS iw ib s tag 1 (.inl rfl) (by omega)).go hW ?_
        simp [hS.P]
        have h3 := num_len s tag 1
        refine (num_spec hS iw ib (s.num tag 1) body.length 2 (.inr (.inl rfl)) (by omega)).go (hW.upd _) ?_
        simp [hS.P, hW.upd_upd]
        have h4 := num_len (s.num tag 1) body.length 2
        refine (wput_spec hS iw ib ((s.num tag 1).num body.length 2) body _ (.inl rfl) (by omega)).go (hW.upd _) ?_
        simp [hW.upd_upd]
        refine Leave.stay ⟨rfl, ?_⟩
        have h2' : ¬ 65535 < body.length := by omega
        simp [WSt.rcd, h0, h1, h2']

def WSt.out (s : WSt) : List UInt8 :=
  match s.err with
  | .none => s.data
  | _ => []
def WSt.done (s : WSt) : AV := .tup [encBytes s.out, encErr s.err]
theorem WS.other {H : AH} {iw ib : Nat} {s : WSt} (h : WS H iw ib s) {i : Nat} (hi : H.get i = .free) (t : Slot) : WS (H.put i t) iw ib s := by
  have h1 : iw ≠ i := by rintro rfl; have := h.w; rw [hi] at this; simp [WSt.slot] at this
  have h2 : ib ≠ i := by rintro rfl; have := h.b; rw [hi] at this; simp [WSt.buf] at this
  exact ⟨by rw [AH.put_ne _ _ h1]; exact h.w, by rw [AH.put_ne _ _ h2]; exact h.b, h.ne⟩
/-- What was there before is kept, but for a writer that is new. -/
theorem WS.keeps {H0 H : AH} {iw ib : Nat} {s : WSt} (hi : H0.get iw = .free) (hb : H0.get ib = .free) (hk : ∀ i, H0.get i ≠ .free → H.get i = H0.get i) : ∀ i, H0.get i ≠ .free → (H.upd (wwr iw ib s)).get i = H0.get i :=
  put_keeps hi (put_keeps hb hk)
end Go.Proofs.YtndoembhbfiokaaGreatDoor.Am
set_option linter.unusedVariables false
set_option linter.unusedSimpArgs false
namespace Go.Proofs.YtndoembhbfiokaaGreatDoor.Am
open Go.RowKit Go.Proofs

theorem wdone_spec {X : Ctx} (hS : Sent X) {H : AH} (iw ib : Nat) (s : WSt) (hW : WS H iw ib s) (hl : s.data.length ≤ 1073741824) : ACalls X 54 [.ptr iw 0 0 0] H fun v H' => v = s.done ∧ H' = H := by
  refine acalls' (N := 18) (rs := [.tmp 2, .tmp 3]) [] (by rw [hS.P]; exact Tryz.func54) rfl rfl rfl (by decide) (by simp) ?_
  simp [entryR, hS.P, hW.w, WSt.slot]
  cases he : s.err with
  | none =>
    simp [encErr, hS.P, hW.w, WSt.slot]
    refine (clone_live hS.P s.data hW.b hl).mono ?_
    rintro _ _ ⟨rfl, rfl⟩
    simp
    exact Leave.data (keeps_refl _) (by simp) (by simp [WSt.done, WSt.out, he, encBytes, encErr])
  | bare g =>
    simp [encErr, hS.P, sentV]
    rw [aC_draw (hc := by kernel_rfl)]
    simp [hS.P, hW.w, WSt.slot, he, encErr, sentV]
    refine Leave.le (v' := s.done) ?_ (Leave.data (keeps_refl _) (by simp [WSt.done]) (by simp))
    simp [WSt.done, WSt.out, he, encErr, sentV, encBytes]
    exact Le.tup rfl fun j x y h1 h2 => by
      rcases j with _ | _ | j <;> simp at h1 h2
      · subst h1 h2; exact Le.csl []
      · subst h1 h2; exact Le.refl _
  | «at» p g =>
    simp [encErr, hS.P]
    rw [aC_draw (hc := by kernel_rfl)]
    simp [hS.P, hW.w, WSt.slot, he, encErr, sentV]
    refine Leave.le (v' := s.done) ?_ (Leave.data (keeps_refl _) (by simp [WSt.done]) (by simp))
    simp [WSt.done, WSt.out, he, encErr, sentV, encBytes]
    exact Le.tup rfl fun j x y h1 h2 => by
      rcases j with _ | _ | j <;> simp at h1 h2
      · subst h1 h2; exact Le.csl []
      · subst h1 h2; exact Le.refl _

def WSt.new : WSt := ⟨0, [], .none⟩
theorem new_spec {X : Ctx} (hS : Sent X) (H : AH) : ACalls X 55 [] H fun v H' => v = .ptr H.nx 0 0 0 ∧ H' = (H.put H.nx (WSt.new.slot (H.nx + 1))).put (H.nx + 1) WSt.new.buf := by
  refine acalls' (N := 3) (rs := [.tmp 0]) [] (by rw [hS.P]; exact Tryz.func55) rfl rfl rfl (by decide) (by simp) ?_
  simp [entryR, hS.P]
  refine Leave.mat0 1 ?_
  simp
  refine Leave.slot (id := H.nx) (xs := [.agg [.csl [], .nili]]) (sz := 2) (ver := 0) [.agg ([.csl [], .nili].set 0 (.sl (H.nx + 1) 0 0 0))] (by simp) rfl (cell_le 0 rfl (LeH.mat (id := H.nx + 1) (by simp))) ?_
  refine Leave.stay ⟨rfl, ?_⟩
  rw [AH.put3 _ (by omega)]
  rfl

def joinSt (l : List RecD) : WSt := l.foldl (fun s r => s.rcd r.tag r.body) WSt.new
theorem fold_len : ∀ (l : List RecD) (s : WSt), (l.foldl (fun s r => s.rcd r.tag r.body) s).data.length ≤ s.data.length + (l.map fun r => r.body.length + 3).sum
  | [], s => by simp
  | r :: l, s => by
    have h1 := fold_len l (s.rcd r.tag r.body)
    have h2 := rcd_len s r.tag r.body
    simp only [List.foldl_cons, List.map_cons, List.sum_cons]
    omega
theorem sum_take (f : RecD → Nat) : ∀ (l : List RecD) (n : Nat), ((l.take n).map f).sum ≤ (l.map f).sum
  | [], n => by simp
  | r :: l, 0 => by simp
  | r :: l, n + 1 => by have := sum_take f l n; simp only [List.take_succ_cons, List.map_cons, List.sum_cons]; omega
theorem sum_mem (f : RecD → Nat) : ∀ (l : List RecD) (n : Nat) (r : RecD), l[n]? = some r → ((l.take n).map f).sum + f r ≤ (l.map f).sum
  | [], n, r, h => by simp at h
  | x :: l, 0, r, h => by simp at h; subst h; simp
  | x :: l, n + 1, r, h => by have := sum_mem f l n r (by simpa using h); simp only [List.take_succ_cons, List.map_cons, List.sum_cons]; omega
theorem len_sum (l : List RecD) : l.length ≤ (l.map fun r => r.body.length + 3).sum := by
  induction l with
  | nil => simp
  | cons r l ih => simp; omega

end Go.Proofs.YtndoembhbfiokaaGreatDoor.Am
set_option linter.unusedVariables false
set_option linter.unusedSimpArgs false
namespace Go.Proofs.YtndoembhbfiokaaGreatDoor.Am
open Go.RowKit Go.Proofs

def encR (code place : Int) : AV := .agg [.int .i64 code, .int .i64 place]
@[simp] theorem encR_data (c p : Int) : (encR c p).Data := by simp [encR]
@[simp] theorem encR_cells (c p : Int) : (encR c p).cells = [.int .i64 c, .int .i64 p] := rfl
@[simp] theorem encR_good (c p : Int) : (encR c p).good = true := rfl
structure RSt where
  ver : Nat
  data : List UInt8
  code : Int
  place : Int
def RSt.slot (s : RSt) (ib : Nat) : Slot := .row [.agg [.sl ib s.ver 0 s.data.length, .int .i64 s.code, .int .i64 s.place]] 3 0
def RSt.buf (s : RSt) : Slot := .row (s.data.map encB) 1 s.ver
structure RS (H : AH) (iw ib : Nat) (s : RSt) : Prop where
  w : H.get iw = s.slot ib
  b : H.get ib = s.buf
  ne : iw ≠ ib
def rwr (iw ib : Nat) (s : RSt) : List (Nat × Slot) := [(ib, s.buf), (iw, s.slot ib)]
theorem RS.upd {H : AH} {iw ib : Nat} {s : RSt} (h : RS H iw ib s) (t : RSt) : RS (H.upd (rwr iw ib t)) iw ib t := ⟨by simp [rwr], by simp [rwr, h.ne.symm], h.ne⟩
theorem RS.lt {H : AH} {iw ib : Nat} {s : RSt} (h : RS H iw ib s) : iw < H.nx ∧ ib < H.nx := ⟨AH.lt_nx (by rw [h.w]; simp [RSt.slot]), AH.lt_nx (by rw [h.b]; simp [RSt.buf])⟩
theorem RS.same {H : AH} {iw ib : Nat} {s : RSt} (h : RS H iw ib s) : H.upd (rwr iw ib s) = H := by
  simp only [rwr, AH.upd_cons, upd_nil]
  rw [AH.put_self h.b (by simp [RSt.buf]), AH.put_self h.w (by simp [RSt.slot])]
theorem RS.upd_upd {H : AH} {iw ib : Nat} {s : RSt} (h : RS H iw ib s) (t u : RSt) : (H.upd (rwr iw ib t)).upd (rwr iw ib u) = H.upd (rwr iw ib u) := by
  obtain ⟨h1, h2⟩ := h.lt
  refine AH.ext' (by simp only [rwr, AH.upd_cons, upd_nil, AH.nx_put, h1, h2, if_true]) fun i => ?_
  simp only [rwr, AH.upd_cons, upd_nil, AH.get_put]
  split
  · rfl
  · split <;> rfl
theorem RS.other {H : AH} {iw ib : Nat} {s : RSt} (h : RS H iw ib s) {i : Nat} (hi : H.get i = .free) (t : Slot) : RS (H.put i t) iw ib s := by
  have h1 : iw ≠ i := by rintro rfl; have := h.w; rw [hi] at this; simp [RSt.slot] at this
  have h2 : ib ≠ i := by rintro rfl; have := h.b; rw [hi] at this; simp [RSt.buf] at this
  exact ⟨by rw [AH.put_ne _ _ h1]; exact h.w, by rw [AH.put_ne _ _ h2]; exact h.b, h.ne⟩
def RTurn (X : Ctx) (f : FuncId) (iw ib : Nat) (args : List AV) (s s' : RSt) : Prop := ∀ H, RS H iw ib s → ACalls X f args H fun v H' => v = .tup [] ∧ H' = H.upd (rwr iw ib s')
theorem RTurn.go {X : Ctx} {f : FuncId} {iw ib : Nat} {args : List AV} {s s' : RSt} (h : RTurn X f iw ib args s s') {H : AH} (hW : RS H iw ib s) {K : AV → AH → Prop} (hK : K (.tup []) (H.upd (rwr iw ib s'))) : ACalls X f args H K :=
  (h H hW).mono fun v H' ⟨h1, h2⟩ => by subst h1 h2; exact hK
theorem RTurn.call {X : Ctx} {f : FuncId} {iw ib : Nat} {args : List AV} {s s' : RSt} (h : RTurn X f iw ib args s s') {H : AH} (hW : RS H iw ib s) {K : Post} (hK : K (.tup []) [iw, ib] (rwr iw ib s')) : aCall X f args H K :=
  ⟨.tup [], [iw, ib], rwr iw ib s', hK, fun i t h => by simp [rwr] at h; rcases h with ⟨rfl, _⟩ | ⟨rfl, _⟩ <;> simp, fun H' hH => h H' ⟨(hH iw (by simp)).trans hW.w, (hH ib (by simp)).trans hW.b, hW.ne⟩⟩

def RSt.new : RSt := ⟨0, [], 0, -1⟩
def RSt.put (s : RSt) (b : List UInt8) (code : Int) : RSt :=
  if s.code ≠ 0 then s else if code ≠ 0 then { s with code := code, place := s.data.length } else { s with ver := s.ver + 1, data := s.data ++ b }
/-- A slice of bytes that is read. -/
def BSrc (H : AH) (x : AV) (b : List UInt8) : Prop := x = .fsl (b.map encB) ∨ x = .csl (b.map encB) ∨ ∃ id ver, x = .sl id ver 0 b.length ∧ H.get id = .row (b.map encB) 1 ver
end Go.Proofs.YtndoembhbfiokaaGreatDoor.Am
set_option linter.unusedVariables false
set_option linter.unusedSimpArgs false
namespace Go.Proofs.YtndoembhbfiokaaGreatDoor.Am
open Go.RowKit Go.Proofs

def numB (n : Int) (w : Nat) : List UInt8 := (List.range w).map fun i => byteAt n (w - 1 - i)
theorem numB_len (n : Int) (w : Nat) : (numB n w).length = w := by simp [numB]
theorem byteAt_div (n : Int) (h : 0 ≤ n) (j : Nat) : byteAt n j = UInt8.ofNat ((n / 256 ^ j) % 256).toNat := by
  unfold byteAt
  have : (2 : Int) ^ (8 * j) = 256 ^ j := by rw [Int.pow_mul]; rfl
  rw [this, Int.fdiv_eq_ediv_of_nonneg _ (Int.pow_nonneg (by decide))]
def RSt.rcd (s : RSt) (tag : Int) (body : List UInt8) : RSt :=
  if tag < 1 ∨ 255 < tag then s.put [] 3 else if 65535 < body.length then s.put [] 5 else s.put (UInt8.ofNat (tag % 256).toNat :: (numB body.length 2 ++ body)) 0
theorem rput_len (s : RSt) (b : List UInt8) (c : Int) : (s.put b c).data.length ≤ s.data.length + b.length := by
  unfold RSt.put; split
  · omega
  · split <;> simp
theorem rrcd_len (s : RSt) (tag : Int) (body : List UInt8) : (s.rcd tag body).data.length ≤ s.data.length + body.length + 3 := by
  unfold RSt.rcd; split
  · have := rput_len s [] 3; simp at this; omega
  · split
    · have := rput_len s [] 5; simp at this; omega
    · have := rput_len s (UInt8.ofNat (tag % 256).toNat :: (numB body.length 2 ++ body)) 0; simp [numB_len] at this; omega
theorem RS.go {X : Ctx} {f : FuncId} {args : List AV} {iw ib : Nat} {s' : RSt} {H : AH} (h : ACalls X f args H fun v H' => v = .tup [] ∧ H' = H.upd (rwr iw ib s')) {K : AV → AH → Prop} (hK : K (.tup []) (H.upd (rwr iw ib s'))) : ACalls X f args H K :=
  h.mono fun v H' ⟨h1, h2⟩ => by subst h1 h2; exact hK
theorem RS.keep {H : AH} {iw ib : Nat} {s s' : RSt} (h : RS H iw ib s) {j : Nat} (hj : H.get j = .free) (t : Slot) : Keep H ((H.put j t).upd (rwr iw ib s')) (H.upd (rwr iw ib s')) := by
  have hw : H.get iw ≠ .free := by rw [h.w]; simp [RSt.slot]
  have hb : H.get ib ≠ .free := by rw [h.b]; simp [RSt.buf]
  refine ⟨fun i hi => ?_, fun i hi => ⟨?_, ?_, ?_⟩⟩
  · have h1 : i ≠ iw := by rintro rfl; exact hw hi
    have h2 : i ≠ ib := by rintro rfl; exact hb hi
    simp [rwr, AH.get_put, h1, h2, hi]
  · have h1 : i ≠ j := by rintro rfl; exact hi hj
    simp [rwr, AH.get_put, h1]
  · simp only [rwr, AH.upd_cons, upd_nil, AH.get_put]
    split
    · simp [RSt.slot]
    · split
      · simp [RSt.buf]
      · exact hi
  · simp only [rwr, AH.upd_cons, upd_nil, AH.get_put]
    split
    · right
      intro x hx c hc
      simp only [RSt.slot, List.mem_singleton] at hx
      subst hx
      simp only [cells_agg, List.mem_cons, List.not_mem_nil, or_false] at hc
      rcases hc with rfl | rfl | rfl
      · exact .sl _ _ _ _ hb
      · exact .int _ _
      · exact .int _ _
    · split
      · right
        intro x hx c hc
        obtain ⟨b, _, rfl⟩ := List.mem_map.1 hx
        simp only [encB_cells, List.mem_singleton] at hc
        subst hc
        exact .int _ _
      · exact .inl rfl
end Go.Proofs.YtndoembhbfiokaaGreatDoor.Am
set_option linter.unusedVariables false
set_option linter.unusedSimpArgs false
namespace Go.Proofs.YtndoembhbfiokaaGreatDoor.Am
open Go.RowKit Go.Proofs

def RSt.out (s : RSt) : List UInt8 := if s.code ≠ 0 then [] else s.data
def RSt.pl (s : RSt) : Int := if s.code ≠ 0 then s.place else -1
def RSt.done (s : RSt) : AV := .tup [encBytes s.out, encR s.code s.pl]
def rjoinSt (l : List RecD) : RSt := l.foldl (fun s r => s.rcd r.tag r.body) RSt.new
theorem rfold_len : ∀ (l : List RecD) (s : RSt), (l.foldl (fun s r => s.rcd r.tag r.body) s).data.length ≤ s.data.length + (l.map fun r => r.body.length + 3).sum
  | [], s => by simp
  | r :: l, s => by
    have h1 := rfold_len l (s.rcd r.tag r.body)
    have h2 := rrcd_len s r.tag r.body
    simp only [List.foldl_cons, List.map_cons, List.sum_cons]
    omega
theorem RS.keeps {H0 H : AH} {iw ib : Nat} {s : RSt} (hi : H0.get iw = .free) (hb : H0.get ib = .free) (hk : ∀ i, H0.get i ≠ .free → H.get i = H0.get i) : ∀ i, H0.get i ≠ .free → (H.upd (rwr iw ib s)).get i = H0.get i :=
  put_keeps hi (put_keeps hb hk)

end Go.Proofs.YtndoembhbfiokaaGreatDoor.Am
set_option linter.unusedVariables false
set_option linter.unusedSimpArgs false
namespace Go.Proofs.YtndoembhbfiokaaGreatDoor.Am
open Go.RowKit Go.Proofs

def digs : List UInt8 := [48, 49, 50, 51, 52, 53, 54, 55, 56, 57, 97, 98, 99, 100, 101, 102]
def dig (k : Nat) : UInt8 := digs.getD k 0
theorem digs_get {k : Nat} (h : k < 16) : digs[k]? = some (dig k) := by
  have : k < digs.length := h
  simp [dig, this]
def hexOf (l : List UInt8) : List UInt8 := l.flatMap fun b => [dig (b.toNat / 16), dig (b.toNat % 16)]
theorem hexOf_len (l : List UInt8) : (hexOf l).length = 2 * l.length := by
  induction l with
  | nil => rfl
  | cons b l ih => simp [hexOf] at *; omega
theorem and15 (n : Nat) : ((BitVec.ofInt 8 (n : Int)) &&& (BitVec.ofInt 8 15)).toNat = n % 16 := by
  rw [BitVec.toNat_and]
  simp [BitVec.toNat_ofInt]
  have : (15 : Nat) = 2 ^ 4 - 1 := rfl
  rw [this, Nat.and_two_pow_sub_one_eq_mod]
  omega
end Go.Proofs.YtndoembhbfiokaaGreatDoor.Am
set_option linter.unusedVariables false
set_option linter.unusedSimpArgs false
namespace Go.Proofs.YtndoembhbfiokaaGreatDoor.Am
open Go.RowKit Go.Proofs

def dgt (c : UInt8) : Int := if 48 ≤ c.toNat ∧ c.toNat ≤ 57 then c.toNat - 48 else if 97 ≤ c.toNat ∧ c.toNat ≤ 102 then c.toNat - 87 else -1
theorem dgt_get {k : Nat} (h : k < 16) : dgt (dig k) = k := by
  have : ∀ k : Fin 16, dgt (dig k.val) = (k.val : Int) := by decide
  exact this ⟨k, h⟩
theorem dgt_none {c : UInt8} (h : ∀ k, k < 16 → dig k ≠ c) : dgt c = -1 := by
  have key : ∀ c : Fin 256, (∀ k : Fin 16, dig k.val ≠ UInt8.ofNat c.val) → dgt (UInt8.ofNat c.val) = -1 := by decide +kernel
  have := key ⟨c.toNat, c.toNat_lt⟩ (fun k => by simpa using h k.val k.isLt)
  simpa using this
end Go.Proofs.YtndoembhbfiokaaGreatDoor.Am
set_option linter.unusedVariables false
set_option linter.unusedSimpArgs false
namespace Go.Proofs.YtndoembhbfiokaaGreatDoor.Am
open Go.RowKit Go.Proofs

theorem dgt_lt (c : UInt8) : dgt c < 16 := by unfold dgt; split <;> (try split) <;> omega
theorem dgt_ge (c : UInt8) : -1 ≤ dgt c := by unfold dgt; split <;> (try split) <;> omega
def unB (s : List UInt8) (m : Nat) : UInt8 := UInt8.ofNat ((16 * dgt (s[2 * m]?.getD 0) + dgt (s[2 * m + 1]?.getD 0)) % 256).toNat
def unhexB (s : List UInt8) (m : Nat) : List UInt8 := (List.range m).map (unB s)
theorem unhexB_succ (s : List UInt8) (m : Nat) : unhexB s (m + 1) = unhexB s m ++ [unB s m] := by simp [unhexB, List.range_succ]
theorem unhexB_len (s : List UInt8) (m : Nat) : (unhexB s m).length = m := by simp [unhexB]
def bad (s : List UInt8) : Option Nat := (List.range s.length).find? fun i => decide (dgt (s[i]?.getD 0) < 0)
def unhexE (s : List UInt8) : PE := match bad s with
  | some i => .at i 18
  | none => if s.length % 2 = 1 then .at s.length 1 else .none
def unhexD (s : List UInt8) : List UInt8 := match unhexE s with
  | .none => unhexB s (s.length / 2)
  | _ => []
theorem bad_at {s : List UInt8} {n : Nat} (hn : n < s.length) (hb : ∀ k, k < n → 0 ≤ dgt (s[k]?.getD 0)) (h : dgt (s[n]?.getD 0) < 0) : bad s = some n := by
  unfold bad
  rw [List.find?_range_eq_some]
  refine ⟨by simpa using h, by simpa using hn, fun j hj => by have := hb j hj; simp; omega⟩
theorem bad_none {s : List UInt8} (hb : ∀ k, k < s.length → 0 ≤ dgt (s[k]?.getD 0)) : bad s = none := by
  unfold bad
  rw [List.find?_eq_none]
  intro k hk
  have := hb k (by simpa using hk)
  simp; omega

theorem orf : ∀ a b : Fin 16, IntKind.i64.wrap (((BitVec.ofInt IntKind.i64.bits (IntKind.i64.wrap ((a.val : Int) * 2 ^ min 4 IntKind.i64.bits)) ||| BitVec.ofInt IntKind.i64.bits (b.val : Int)).toNat : Nat) : Int) = 16 * (a.val : Int) + b.val := by decide +kernel
theorem orI {a b : Int} (ha : 0 ≤ a) (ha' : a < 16) (hb : 0 ≤ b) (hb' : b < 16) :
    IntKind.i64.wrap (((BitVec.ofInt IntKind.i64.bits (IntKind.i64.wrap (a * 2 ^ min 4 IntKind.i64.bits)) ||| BitVec.ofInt IntKind.i64.bits b).toNat : Nat) : Int) = 16 * a + b := by
  have := orf ⟨a.toNat, by omega⟩ ⟨b.toNat, by omega⟩
  simp only [Int.toNat_of_nonneg ha, Int.toNat_of_nonneg hb] at this
  exact this
end Go.Proofs.YtndoembhbfiokaaGreatDoor.Am
set_option linter.unusedVariables false
set_option linter.unusedSimpArgs false
namespace Go.Proofs.YtndoembhbfiokaaGreatDoor.Am
open Go.RowKit Go.Proofs

/-- The codes of the sentinels, by their variables' numbers. -/
def codeG (g : Nat) : Int := g
def PE.code : PE → Int
  | .none => 0
  | .bare g => codeG g
  | .at _ g => codeG g
def PE.place : PE → Int
  | .at p _ => p
  | _ => -1
def encPR (e : PE) : AV := encR e.code e.place
@[simp] theorem encPR_data (e : PE) : (encPR e).Data := by simp [encPR]

end Go.Proofs.YtndoembhbfiokaaGreatDoor.Am
/- What the errors of this program answer: errors.Is, api.Code, api.Place. -/
set_option linter.unusedVariables false
set_option linter.unusedSimpArgs false
namespace Go.Proofs.YtndoembhbfiokaaGreatDoor.Am
open Go.RowKit Go.Proofs

theorem ACalc.of {X : Ctx} {f : FuncId} {args : List AV} {v : AV} (hc : callable X.P f = true)
    (h : ∀ μ ρ w0 H w A, WRel X μ ρ w0 H w → CRel μ ρ (Live μ H) w args A → Calls X.P f A w fun e w' => ∃ c, e = .returned c ∧ (∀ μ L w, VRel μ ρ L w v c) ∧ Below w.heap.size w w') : ACalc X f args v := by
  intro H
  refine ⟨hc, fun μ ρ w0 w A hW hA => (h μ ρ w0 H w A hW hA).mono fun e w' ⟨c, he, hv, hb⟩ => ?_⟩
  obtain ⟨hx, hW'⟩ := hW.grow hb
  exact ⟨c, v, H, μ, he, ⟨rfl, rfl⟩, hx, hW', hv _ _ _⟩

theorem CRel.args1 {μ : Mu} {ρ : Nat → Value} {L : LV} {w : World} {x : AV} {A : Array Value} (h : CRel μ ρ L w [x] A) : ∃ a, A = #[a] ∧ VRel μ ρ L w x a := by
  obtain ⟨h1, h2⟩ := h
  obtain ⟨a, ha, hr⟩ := h2 0 x rfl
  refine ⟨a, ?_, hr⟩
  have hs : A.size = 1 := by simpa using h1
  refine Array.ext (by simp [hs]) fun i h3 h4 => ?_
  obtain rfl : i = 0 := by simp at h4; omega
  rw [Array.getElem?_eq_getElem h3] at ha
  simpa using ha
theorem CRel.args2 {μ : Mu} {ρ : Nat → Value} {L : LV} {w : World} {x y : AV} {A : Array Value} (h : CRel μ ρ L w [x, y] A) : ∃ a b, A = #[a, b] ∧ VRel μ ρ L w x a ∧ VRel μ ρ L w y b := by
  obtain ⟨h1, h2⟩ := h
  obtain ⟨a, ha, hr⟩ := h2 0 x rfl
  obtain ⟨b, hb, hr'⟩ := h2 1 y rfl
  refine ⟨a, b, ?_, hr, hr'⟩
  have hs : A.size = 2 := by simpa using h1
  refine Array.ext (by simp [hs]) fun i h3 h4 => ?_
  rcases (by simp at h4; omega : i = 0 ∨ i = 1) with rfl | rfl
  · rw [Array.getElem?_eq_getElem h3] at ha; simpa using ha
  · rw [Array.getElem?_eq_getElem h3] at hb; simpa using hb
theorem sentV_inv {μ : Mu} {ρ : Nat → Value} {L : LV} {w : World} {c : Nat} {v : Value} (h : VRel μ ρ L w (sentV c) v) : v = .iface 222 (ρ c) := by
  cases h with
  | iface _ _ u h => cases h; rfl
theorem errAt_inv {μ : Mu} {ρ : Nat → Value} {L : LV} {w : World} {p : Int} {c : Nat} {v : Value} (h : VRel μ ρ L w (encErr (.at p c)) v) :
    ∃ b o, v = .iface 131 (.pointer (some ⟨b, o, none⟩)) ∧ w.cell? ⟨b, o, none⟩ = some (.int .i64 p) ∧ w.cell? ⟨b, o + 1, none⟩ = some (.iface 222 (ρ c)) := by
  cases h with
  | iface _ _ u h =>
    obtain ⟨b, o, rfl, hc⟩ := h.eptr_at
    have hc := hc _ rfl
    obtain ⟨c0, h0, r0⟩ := hc 0 (by simp)
    obtain ⟨c1, h1, r1⟩ := hc 1 (by simp)
    have e1 := sentV_inv r1
    simp only [cells_agg, List.getElem_cons_zero] at r0
    cases r0
    subst e1
    exact ⟨b, o, rfl, h0, h1⟩

def PE.Ok : PE → Prop
  | .none => True
  | .bare c => 1 ≤ c ∧ c ≤ 20
  | .at _ c => 1 ≤ c ∧ c ≤ 20
theorem sents_mem : ∀ c, 1 ≤ c → c ≤ 20 → ∃ g, (g, c) ∈ sents := by
  intro c h1 h2
  have : ∀ n : Fin 21, 1 ≤ n.1 → (sents.any fun x => x.2 == n.1) = true := by decide
  have h := this ⟨c, by omega⟩ h1
  simp only [List.any_eq_true, beq_iff_eq] at h
  obtain ⟨⟨g, c'⟩, hm, rfl⟩ := h
  exact ⟨g, hm⟩

theorem is_spec {X : Ctx} (hS : Sent X) (e : PE) (hne : e ≠ .none) (he : e.Ok) (c : Nat) (hc : 1 ≤ c ∧ c ≤ 20) : ACalc X 61 [encErr e, sentV c] (.bool (decide (e.code = c))) := by
  refine ACalc.of (by rw [hS.P]; kernel_rfl) fun μ ρ w0 H w A hW hA => ?_
  obtain ⟨a, b, rfl, ha, hb⟩ := hA.args2
  have hb := sentV_inv hb
  subst hb
  have hok := hS.ok ρ w0 hW.ok
  obtain ⟨g, hg⟩ := sents_mem c hc.1 hc.2
  obtain ⟨pa, ca, ta, hpa, hba⟩ := hok.ptr g c hg
  have hba' : w.heap[pa.block]? = some (.cells ca ta (0, 0)) := by rw [hW.below.block _ (Array.getElem?_eq_some_iff.1 hba).1]; exact hba
  rw [hS.P, hpa]
  have fin : ∀ (r : Bool), (decide (e.code = c)) = r → ∀ (en : Ending) (w' : World), en = .returned (.bool r) ∧ w' = w → ∃ v, en = .returned v ∧ (∀ μ L w, VRel μ ρ L w (.bool (decide (e.code = c))) v) ∧ Below w.heap.size w w' := by
    rintro r rfl en w' ⟨rfl, rfl⟩
    exact ⟨_, rfl, fun _ _ _ => .bool _, Below.refl _ _⟩
  cases e with
  | none => exact absurd rfl hne
  | bare c' =>
    have ha := sentV_inv (show VRel μ ρ (Live μ H) w (sentV c') a from ha)
    subst ha
    by_cases hcc : c' = c
    · subst hcc
      rw [hpa]
      exact (is_same pa w).mono (fin true (by simp [PE.code, codeG]))
    · obtain ⟨g', hg'⟩ := sents_mem c' he.1 he.2
      obtain ⟨pb, cb, tb, hpb, hbb⟩ := hok.ptr g' c' hg'
      have hbb' : w.heap[pb.block]? = some (.cells cb tb (0, 0)) := by rw [hW.below.block _ (Array.getElem?_eq_some_iff.1 hbb).1]; exact hbb
      rw [hpb]
      have hn : pb ≠ pa := fun e => hok.ne g' c' g c hg' hg hcc (by rw [hpa, hpb, e])
      exact (is_other pb pa cb ca tb ta w hn hbb' hba').mono (fin false (by simp only [PE.code, codeG]; exact decide_eq_false (by omega)))
  | «at» p c' =>
    obtain ⟨b, o, rfl, h0, h1⟩ := errAt_inv ha
    by_cases hcc : c' = c
    · subst hcc
      rw [hpa] at h1
      exact (is_wrap_same b o pa w h1).mono (fin true (by simp [PE.code, codeG]))
    · obtain ⟨g', hg'⟩ := sents_mem c' he.1 he.2
      obtain ⟨pb, cb, tb, hpb, hbb⟩ := hok.ptr g' c' hg'
      have hbb' : w.heap[pb.block]? = some (.cells cb tb (0, 0)) := by rw [hW.below.block _ (Array.getElem?_eq_some_iff.1 hbb).1]; exact hbb
      rw [hpb] at h1
      have hn : pb ≠ pa := fun e => hok.ne g' c' g c hg' hg hcc (by rw [hpa, hpb, e])
      exact (is_wrap_other b o pa pb cb ca tb ta w h1 hn hbb' hba').mono (fin false (by simp only [PE.code, codeG]; exact decide_eq_false (by omega)))

theorem encErr_iface {e : PE} (hne : e ≠ .none) : ∃ T v, encErr e = .iface T v := by
  cases e with
  | none => exact absurd rfl hne
  | bare c => exact ⟨_, _, rfl⟩
  | «at» p c => exact ⟨_, _, rfl⟩
theorem code_range {e : PE} (hne : e ≠ .none) (he : e.Ok) : 1 ≤ e.code ∧ e.code ≤ 20 := by
  cases e with
  | none => exact absurd rfl hne
  | bare c => simp [PE.code, codeG]; have := he.1; have := he.2; omega
  | «at» p c => simp [PE.code, codeG]; have := he.1; have := he.2; omega
theorem code2_spec {X : Ctx} (hS : Sent X) (e : PE) (hne : e ≠ .none) (he : e.Ok) {T : TypeId} {v : AV} (hT : encErr e = .iface T v) (h10 : 10 < e.code) : ACalc X 62 [.iface T v] (.int .i64 e.code) := by
  have hr := code_range hne he
  have I11 : ACalc X 61 [.iface T v, sentV 11] (.bool (decide (e.code = 11))) := by simpa [hT] using is_spec hS e hne he 11 (by decide)
  have I12 : ACalc X 61 [.iface T v, sentV 12] (.bool (decide (e.code = 12))) := by simpa [hT] using is_spec hS e hne he 12 (by decide)
  have I13 : ACalc X 61 [.iface T v, sentV 13] (.bool (decide (e.code = 13))) := by simpa [hT] using is_spec hS e hne he 13 (by decide)
  have I14 : ACalc X 61 [.iface T v, sentV 14] (.bool (decide (e.code = 14))) := by simpa [hT] using is_spec hS e hne he 14 (by decide)
  have I15 : ACalc X 61 [.iface T v, sentV 15] (.bool (decide (e.code = 15))) := by simpa [hT] using is_spec hS e hne he 15 (by decide)
  have I16 : ACalc X 61 [.iface T v, sentV 16] (.bool (decide (e.code = 16))) := by simpa [hT] using is_spec hS e hne he 16 (by decide)
  have I17 : ACalc X 61 [.iface T v, sentV 17] (.bool (decide (e.code = 17))) := by simpa [hT] using is_spec hS e hne he 17 (by decide)
  have I18 : ACalc X 61 [.iface T v, sentV 18] (.bool (decide (e.code = 18))) := by simpa [hT] using is_spec hS e hne he 18 (by decide)
  have I19 : ACalc X 61 [.iface T v, sentV 19] (.bool (decide (e.code = 19))) := by simpa [hT] using is_spec hS e hne he 19 (by decide)
  have I20 : ACalc X 61 [.iface T v, sentV 20] (.bool (decide (e.code = 20))) := by simpa [hT] using is_spec hS e hne he 20 (by decide)
  intro H
  refine acalls' (N := 43) (rs := [.tmp 2]) [] (by rw [hS.P]; exact Tryz.func62) rfl rfl rfl (by decide) (by simp) ?_
  simp [entryR]
  simp [hS.P, hS.e11]
  refine (I11).go ?_
  simp
  refine aCond_dec (fun h => ?_) (fun h11 => ?_)
  · simp
    exact Leave.data (keeps_refl _) (by simp) (by simp [h])
  simp [hS.P, hS.e12]
  refine (I12).go ?_
  simp
  refine aCond_dec (fun h => ?_) (fun h12 => ?_)
  · simp
    exact Leave.data (keeps_refl _) (by simp) (by simp [h])
  simp [hS.P, hS.e13]
  refine (I13).go ?_
  simp
  refine aCond_dec (fun h => ?_) (fun h13 => ?_)
  · simp
    exact Leave.data (keeps_refl _) (by simp) (by simp [h])
  simp [hS.P, hS.e14]
  refine (I14).go ?_
  simp
  refine aCond_dec (fun h => ?_) (fun h14 => ?_)
  · simp
    exact Leave.data (keeps_refl _) (by simp) (by simp [h])
  simp [hS.P, hS.e15]
  refine (I15).go ?_
  simp
  refine aCond_dec (fun h => ?_) (fun h15 => ?_)
  · simp
    exact Leave.data (keeps_refl _) (by simp) (by simp [h])
  simp [hS.P, hS.e16]
  refine (I16).go ?_
  simp
  refine aCond_dec (fun h => ?_) (fun h16 => ?_)
  · simp
    exact Leave.data (keeps_refl _) (by simp) (by simp [h])
  simp [hS.P, hS.e17]
  refine (I17).go ?_
  simp
  refine aCond_dec (fun h => ?_) (fun h17 => ?_)
  · simp
    exact Leave.data (keeps_refl _) (by simp) (by simp [h])
  simp [hS.P, hS.e18]
  refine (I18).go ?_
  simp
  refine aCond_dec (fun h => ?_) (fun h18 => ?_)
  · simp
    exact Leave.data (keeps_refl _) (by simp) (by simp [h])
  simp [hS.P, hS.e19]
  refine (I19).go ?_
  simp
  refine aCond_dec (fun h => ?_) (fun h19 => ?_)
  · simp
    exact Leave.data (keeps_refl _) (by simp) (by simp [h])
  simp [hS.P, hS.e20]
  refine (I20).go ?_
  simp
  refine aCond_dec (fun h => ?_) (fun h20 => ?_)
  · simp
    exact Leave.data (keeps_refl _) (by simp) (by simp [h])
  omega
theorem code_spec {X : Ctx} (hS : Sent X) (e : PE) (he : e.Ok) : ACalc X 23 [encErr e] (.int .i64 e.code) := by
  by_cases hne : e = .none
  · subst hne
    intro H
    refine acalls' (N := 48) (rs := [.tmp 2]) [] (by rw [hS.P]; exact Tryz.func23) rfl rfl rfl (by decide) (by simp) ?_
    simp [entryR, encErr, hS.P]
    exact Leave.data (keeps_refl _) (by simp) (by simp [PE.code])
  have hr := code_range hne he
  obtain ⟨T, v, hT⟩ := encErr_iface hne
  rw [hT]
  have I1 : ACalc X 61 [.iface T v, sentV 1] (.bool (decide (e.code = 1))) := by simpa [hT] using is_spec hS e hne he 1 (by decide)
  have I2 : ACalc X 61 [.iface T v, sentV 2] (.bool (decide (e.code = 2))) := by simpa [hT] using is_spec hS e hne he 2 (by decide)
  have I3 : ACalc X 61 [.iface T v, sentV 3] (.bool (decide (e.code = 3))) := by simpa [hT] using is_spec hS e hne he 3 (by decide)
  have I4 : ACalc X 61 [.iface T v, sentV 4] (.bool (decide (e.code = 4))) := by simpa [hT] using is_spec hS e hne he 4 (by decide)
  have I5 : ACalc X 61 [.iface T v, sentV 5] (.bool (decide (e.code = 5))) := by simpa [hT] using is_spec hS e hne he 5 (by decide)
  have I6 : ACalc X 61 [.iface T v, sentV 6] (.bool (decide (e.code = 6))) := by simpa [hT] using is_spec hS e hne he 6 (by decide)
  have I7 : ACalc X 61 [.iface T v, sentV 7] (.bool (decide (e.code = 7))) := by simpa [hT] using is_spec hS e hne he 7 (by decide)
  have I8 : ACalc X 61 [.iface T v, sentV 8] (.bool (decide (e.code = 8))) := by simpa [hT] using is_spec hS e hne he 8 (by decide)
  have I9 : ACalc X 61 [.iface T v, sentV 9] (.bool (decide (e.code = 9))) := by simpa [hT] using is_spec hS e hne he 9 (by decide)
  have I10 : ACalc X 61 [.iface T v, sentV 10] (.bool (decide (e.code = 10))) := by simpa [hT] using is_spec hS e hne he 10 (by decide)
  intro H
  refine acalls' (N := 48) (rs := [.tmp 2]) [] (by rw [hS.P]; exact Tryz.func23) rfl rfl rfl (by decide) (by simp) ?_
  simp [entryR, hS.P]
  simp [hS.P, hS.e1]
  refine (I1).go ?_
  simp
  refine aCond_dec (fun h => ?_) (fun h1 => ?_)
  · simp
    exact Leave.data (keeps_refl _) (by simp) (by simp [h])
  simp [hS.P, hS.e2]
  refine (I2).go ?_
  simp
  refine aCond_dec (fun h => ?_) (fun h2 => ?_)
  · simp
    exact Leave.data (keeps_refl _) (by simp) (by simp [h])
  simp [hS.P, hS.e3]
  refine (I3).go ?_
  simp
  refine aCond_dec (fun h => ?_) (fun h3 => ?_)
  · simp
    exact Leave.data (keeps_refl _) (by simp) (by simp [h])
  simp [hS.P, hS.e4]
  refine (I4).go ?_
  simp
  refine aCond_dec (fun h => ?_) (fun h4 => ?_)
  · simp
    exact Leave.data (keeps_refl _) (by simp) (by simp [h])
  simp [hS.P, hS.e5]
  refine (I5).go ?_
  simp
  refine aCond_dec (fun h => ?_) (fun h5 => ?_)
  · simp
    exact Leave.data (keeps_refl _) (by simp) (by simp [h])
  simp [hS.P, hS.e6]
  refine (I6).go ?_
  simp
  refine aCond_dec (fun h => ?_) (fun h6 => ?_)
  · simp
    exact Leave.data (keeps_refl _) (by simp) (by simp [h])
  simp [hS.P, hS.e7]
  refine (I7).go ?_
  simp
  refine aCond_dec (fun h => ?_) (fun h7 => ?_)
  · simp
    exact Leave.data (keeps_refl _) (by simp) (by simp [h])
  simp [hS.P, hS.e8]
  refine (I8).go ?_
  simp
  refine aCond_dec (fun h => ?_) (fun h8 => ?_)
  · simp
    exact Leave.data (keeps_refl _) (by simp) (by simp [h])
  simp [hS.P, hS.e9]
  refine (I9).go ?_
  simp
  refine aCond_dec (fun h => ?_) (fun h9 => ?_)
  · simp
    exact Leave.data (keeps_refl _) (by simp) (by simp [h])
  simp [hS.P, hS.e10]
  refine (I10).go ?_
  simp
  refine aCond_dec (fun h => ?_) (fun h10 => ?_)
  · simp
    exact Leave.data (keeps_refl _) (by simp) (by simp [h])
  simp
  refine (code2_spec hS e hne he hT (by omega)).go ?_
  simp
  exact Leave.data (keeps_refl _) (by simp) (by simp)

theorem place_spec {X : Ctx} (hS : Sent X) (e : PE) : ACalc X 24 [encErr e] (.int .i64 e.place) := by
  refine ACalc.of (by rw [hS.P]; kernel_rfl) fun μ ρ w0 H w A hW hA => ?_
  obtain ⟨a, rfl, ha⟩ := hA.args1
  have hok := (hS.ok ρ w0 hW.ok).ety
  have hg : w.cell? ⟨20, 0, none⟩ = some (.iface 193 (.agg #[.pointer (some ⟨21, 41, none⟩)])) := by
    rw [hW.below.cell (World.block_lt_of_cell? w0 _ hok)]; exact hok
  rw [hS.P]
  cases e with
  | none =>
    cases ha
    refine (place_nil w).mono ?_
    rintro _ _ ⟨rfl, rfl⟩
    exact ⟨_, rfl, fun _ _ _ => .int _ _, (Below.refl _ _).alloc (Nat.le_refl _) _⟩
  | bare c =>
    have ha := sentV_inv (show VRel μ ρ (Live μ H) w (sentV c) a from ha)
    subst ha
    refine (place_bare _ w hg).mono ?_
    rintro _ _ ⟨rfl, h⟩
    exact ⟨_, rfl, fun _ _ _ => .int _ _, h⟩
  | «at» p c =>
    obtain ⟨b, o, rfl, h0, _⟩ := errAt_inv ha
    refine (place_at b o p w h0 hg).mono ?_
    rintro _ _ ⟨rfl, h⟩
    exact ⟨_, rfl, fun _ _ _ => .int _ _, h⟩

end Go.Proofs.YtndoembhbfiokaaGreatDoor.Am
