import Derived.Test.YtpkdfjlkhfjlcaaDoorProg
import Derived.WalkKit
import Derived.LaidEql
import Derived.Stop.Asserts
import Derived.RowKitTokens
import Derived.Below
/-! Closed facts on the model's entries for internal/reflectlite and on type assertions, at this program's types. -/
namespace Go.Proofs.YtpkdfjlkhfjlcaaDoor.Er
open Go.RowKit Go.Extern.Stop Go.Stop Go.Extern
set_option linter.unusedVariables false
theorem valueOf61 (t : Addr) (w : World) : (ReflectliteValue.unpack (.iface 61 (.pointer (some t)))).run Tryd.prog w = .ok (.agg #[.pointer (some ⟨5, 61, none⟩), .pointer (some ⟨w.heap.size, 0, none⟩), .int .u64 150]) (w.alloc (.cells #[.pointer (some t)] 61)) := by kernel_rfl
theorem type61 (a : Addr) (w : World) : (ReflectliteValue.methodAny (ReflectliteValue.valueError "reflectlite.Value.Type" 0) (fun t _ _ _ => ReflectliteType.toType t) #[.agg #[.pointer (some ⟨5, 61, none⟩), .pointer (some a), .int .u64 150]]).run Tryd.prog w = .ok (.iface 93 (.agg #[.pointer (some ⟨5, 61, none⟩)])) w := by kernel_rfl
theorem kind61 (w : World) : ((ReflectliteType.abiMethod fun t => (fun a : Nat => Value.int IntKind.u8 (a : Int)) <$> Rtype.kind t) #[.pointer (some ⟨5, 61, none⟩)]).run Tryd.prog w = .ok (.int .u8 22) w := by kernel_rfl
theorem kind25 (w : World) : ((ReflectliteType.abiMethod fun t => (fun a : Nat => Value.int IntKind.u8 (a : Int)) <$> Rtype.kind t) #[.pointer (some ⟨5, 25, none⟩)]).run Tryd.prog w = .ok (.int .u8 2) w := by kernel_rfl
theorem parts61 (a : Addr) (w : World) : (ReflectliteValue.parts (.agg #[.pointer (some ⟨5, 61, none⟩), .pointer (some a), .int .u64 150])).run Tryd.prog w = .ok (some (61, a, 150)) w := by kernel_rfl
theorem elem61 (w : World) : (ReflectliteType.method ReflectliteType.elem #[.agg #[.pointer (some ⟨5, 61, none⟩)]]).run Tryd.prog w = .ok (.iface 93 (.agg #[.pointer (some ⟨5, 25, none⟩)])) w := by kernel_rfl
theorem implements25 (w : World) : (ReflectliteType.relation "Implements" ReflectliteType.implements_ #[.agg #[.pointer (some ⟨5, 25, none⟩)], .iface 93 (.agg #[.pointer (some ⟨5, 23, none⟩)])]).run Tryd.prog w = .ok (.bool true) w := by kernel_rfl
theorem elemOf61 (w : World) : (Rtype.elem? 61).run Tryd.prog w = .ok (some 25) w := by kernel_rfl
theorem mk25 (p : Addr) (w : World) : (ReflectliteValue.mk 25 p ReflectliteValue.flagAddr).run Tryd.prog w = .ok (.agg #[.pointer (some ⟨5, 25, none⟩), .pointer (some p), .int .u64 386]) w := by kernel_rfl
theorem parts25a (a : Addr) (w : World) : (ReflectliteValue.parts (.agg #[.pointer (some ⟨5, 25, none⟩), .pointer (some a), .int .u64 386])).run Tryd.prog w = .ok (some (25, a, 386)) w := by kernel_rfl
theorem parts25 (a : Addr) (w : World) : (ReflectliteValue.parts (.agg #[.pointer (some ⟨5, 25, none⟩), .pointer (some a), .int .u64 130])).run Tryd.prog w = .ok (some (25, a, 130)) w := by kernel_rfl
theorem direct25 (w : World) : (Rtype.directlyAssignable 25 25).run Tryd.prog w = .ok true w := by kernel_rfl
theorem size25 (w : World) : (sizeOf 25).run Tryd.prog w = .ok 1 w := by kernel_rfl
theorem valueOf25 (k : Int) (w : World) : (ReflectliteValue.unpack (.iface 25 (.int .i64 k))).run Tryd.prog w = .ok (.agg #[.pointer (some ⟨5, 25, none⟩), .pointer (some ⟨w.heap.size, 0, none⟩), .int .u64 130]) (w.alloc (.cells #[.int .i64 k] 25)) := by kernel_rfl
theorem valueOf40 (t : Addr) (w : World) : (ReflectliteValue.unpack (.iface 40 (.pointer (some t)))).run Tryd.prog w = .ok (.agg #[.pointer (some ⟨5, 40, none⟩), .pointer (some ⟨w.heap.size, 0, none⟩), .int .u64 150]) (w.alloc (.cells #[.pointer (some t)] 40)) := by kernel_rfl
theorem type40 (a : Addr) (w : World) : (ReflectliteValue.methodAny (ReflectliteValue.valueError "reflectlite.Value.Type" 0) (fun t _ _ _ => ReflectliteType.toType t) #[.agg #[.pointer (some ⟨5, 40, none⟩), .pointer (some a), .int .u64 150]]).run Tryd.prog w = .ok (.iface 93 (.agg #[.pointer (some ⟨5, 40, none⟩)])) w := by kernel_rfl
theorem kind40 (w : World) : ((ReflectliteType.abiMethod fun t => (fun a : Nat => Value.int IntKind.u8 (a : Int)) <$> Rtype.kind t) #[.pointer (some ⟨5, 40, none⟩)]).run Tryd.prog w = .ok (.int .u8 22) w := by kernel_rfl
theorem kind38 (w : World) : ((ReflectliteType.abiMethod fun t => (fun a : Nat => Value.int IntKind.u8 (a : Int)) <$> Rtype.kind t) #[.pointer (some ⟨5, 38, none⟩)]).run Tryd.prog w = .ok (.int .u8 22) w := by kernel_rfl
theorem parts40 (a : Addr) (w : World) : (ReflectliteValue.parts (.agg #[.pointer (some ⟨5, 40, none⟩), .pointer (some a), .int .u64 150])).run Tryd.prog w = .ok (some (40, a, 150)) w := by kernel_rfl
theorem elem40 (w : World) : (ReflectliteType.method ReflectliteType.elem #[.agg #[.pointer (some ⟨5, 40, none⟩)]]).run Tryd.prog w = .ok (.iface 93 (.agg #[.pointer (some ⟨5, 38, none⟩)])) w := by kernel_rfl
theorem implements38 (w : World) : (ReflectliteType.relation "Implements" ReflectliteType.implements_ #[.agg #[.pointer (some ⟨5, 38, none⟩)], .iface 93 (.agg #[.pointer (some ⟨5, 23, none⟩)])]).run Tryd.prog w = .ok (.bool true) w := by kernel_rfl
theorem elemOf40 (w : World) : (Rtype.elem? 40).run Tryd.prog w = .ok (some 38) w := by kernel_rfl
theorem mk38 (p : Addr) (w : World) : (ReflectliteValue.mk 38 p ReflectliteValue.flagAddr).run Tryd.prog w = .ok (.agg #[.pointer (some ⟨5, 38, none⟩), .pointer (some p), .int .u64 406]) w := by kernel_rfl
theorem parts38a (a : Addr) (w : World) : (ReflectliteValue.parts (.agg #[.pointer (some ⟨5, 38, none⟩), .pointer (some a), .int .u64 406])).run Tryd.prog w = .ok (some (38, a, 406)) w := by kernel_rfl
theorem parts38 (a : Addr) (w : World) : (ReflectliteValue.parts (.agg #[.pointer (some ⟨5, 38, none⟩), .pointer (some a), .int .u64 150])).run Tryd.prog w = .ok (some (38, a, 150)) w := by kernel_rfl
theorem direct38 (w : World) : (Rtype.directlyAssignable 38 38).run Tryd.prog w = .ok true w := by kernel_rfl
theorem size38 (w : World) : (sizeOf 38).run Tryd.prog w = .ok 1 w := by kernel_rfl
theorem valueOf38 (a : Addr) (w : World) : (ReflectliteValue.unpack (.iface 38 (.pointer (some a)))).run Tryd.prog w = .ok (.agg #[.pointer (some ⟨5, 38, none⟩), .pointer (some ⟨w.heap.size, 0, none⟩), .int .u64 150]) (w.alloc (.cells #[.pointer (some a)] 38)) := by kernel_rfl
theorem methodKind (h : Value) (w : World) : (Go.method 338 93 (.agg #[h]) "Kind").run Tryd.prog w = .ok (108, h) w := by kernel_rfl
theorem methodElem (h : Value) (w : World) : (Go.method 338 93 (.agg #[h]) "Elem").run Tryd.prog w = .ok (121, .agg #[h]) w := by kernel_rfl
theorem methodImplements (h : Value) (w : World) : (Go.method 338 93 (.agg #[h]) "Implements").run Tryd.prog w = .ok (122, .agg #[h]) w := by kernel_rfl
theorem methodAssignableTo (h : Value) (w : World) : (Go.method 338 93 (.agg #[h]) "AssignableTo").run Tryd.prog w = .ok (119, .agg #[h]) w := by kernel_rfl
theorem methodComparable (h : Value) (w : World) : (Go.method 338 93 (.agg #[h]) "Comparable").run Tryd.prog w = .ok (120, .agg #[h]) w := by kernel_rfl
theorem typeOf25 (v : Value) (w : World) : (ReflectliteType.typeOf #[.iface 25 v]).run Tryd.prog w = .ok (.iface 93 (.agg #[.pointer (some ⟨5, 25, none⟩)])) w := by kernel_rfl
theorem comparable25 (w : World) : (ReflectliteType.method (fun t => do Rtype.noPackHeld "Comparable" t; (fun a => Value.bool a.comparable) <$> typeInfo t) #[.agg #[.pointer (some ⟨5, 25, none⟩)]]).run Tryd.prog w = .ok (.bool true) w := by kernel_rfl
theorem assignable25_25 (w : World) : (ReflectliteType.relation "AssignableTo" ReflectliteType.assignableTo #[.agg #[.pointer (some ⟨5, 25, none⟩)], .iface 93 (.agg #[.pointer (some ⟨5, 25, none⟩)])]).run Tryd.prog w = .ok (.bool true) w := by kernel_rfl
theorem assignable25_38 (w : World) : (ReflectliteType.relation "AssignableTo" ReflectliteType.assignableTo #[.agg #[.pointer (some ⟨5, 25, none⟩)], .iface 93 (.agg #[.pointer (some ⟨5, 38, none⟩)])]).run Tryd.prog w = .ok (.bool false) w := by kernel_rfl
theorem lacks25_102 (v : Value) (xT : TypeId) (w : World) : (Instr.typeAssert (.iface 25 v) xT 102 true).run Tryd.prog w = .ok (.tuple #[.nilIface, .bool false]) w := run_typeAssert_lacksB Tryd.underlying102 (by kernel_rfl) (by kernel_rfl) v xT w
theorem lacks25_95 (v : Value) (xT : TypeId) (w : World) : (Instr.typeAssert (.iface 25 v) xT 95 true).run Tryd.prog w = .ok (.tuple #[.nilIface, .bool false]) w := run_typeAssert_lacksB Tryd.underlying95 (by kernel_rfl) (by kernel_rfl) v xT w
theorem lacks25_79 (v : Value) (xT : TypeId) (w : World) : (Instr.typeAssert (.iface 25 v) xT 79 true).run Tryd.prog w = .ok (.tuple #[.nilIface, .bool false]) w := run_typeAssert_lacksB Tryd.underlying79 (by kernel_rfl) (by kernel_rfl) v xT w
theorem lacks25_98 (v : Value) (xT : TypeId) (w : World) : (Instr.typeAssert (.iface 25 v) xT 98 true).run Tryd.prog w = .ok (.tuple #[.nilIface, .bool false]) w := run_typeAssert_lacksB Tryd.underlying98 (by kernel_rfl) (by kernel_rfl) v xT w
theorem typeOf38 (v : Value) (w : World) : (ReflectliteType.typeOf #[.iface 38 v]).run Tryd.prog w = .ok (.iface 93 (.agg #[.pointer (some ⟨5, 38, none⟩)])) w := by kernel_rfl
theorem comparable38 (w : World) : (ReflectliteType.method (fun t => do Rtype.noPackHeld "Comparable" t; (fun a => Value.bool a.comparable) <$> typeInfo t) #[.agg #[.pointer (some ⟨5, 38, none⟩)]]).run Tryd.prog w = .ok (.bool true) w := by kernel_rfl
theorem assignable38_25 (w : World) : (ReflectliteType.relation "AssignableTo" ReflectliteType.assignableTo #[.agg #[.pointer (some ⟨5, 38, none⟩)], .iface 93 (.agg #[.pointer (some ⟨5, 25, none⟩)])]).run Tryd.prog w = .ok (.bool false) w := by kernel_rfl
theorem assignable38_38 (w : World) : (ReflectliteType.relation "AssignableTo" ReflectliteType.assignableTo #[.agg #[.pointer (some ⟨5, 38, none⟩)], .iface 93 (.agg #[.pointer (some ⟨5, 38, none⟩)])]).run Tryd.prog w = .ok (.bool true) w := by kernel_rfl
theorem lacks38_102 (v : Value) (xT : TypeId) (w : World) : (Instr.typeAssert (.iface 38 v) xT 102 true).run Tryd.prog w = .ok (.tuple #[.nilIface, .bool false]) w := run_typeAssert_lacksB Tryd.underlying102 (by kernel_rfl) (by kernel_rfl) v xT w
theorem lacks38_95 (v : Value) (xT : TypeId) (w : World) : (Instr.typeAssert (.iface 38 v) xT 95 true).run Tryd.prog w = .ok (.tuple #[.nilIface, .bool false]) w := run_typeAssert_lacksB Tryd.underlying95 (by kernel_rfl) (by kernel_rfl) v xT w
theorem has38_79 (v : Value) (xT : TypeId) (w : World) : (Instr.typeAssert (.iface 38 v) xT 79 true).run Tryd.prog w = .ok (.tuple #[.iface 38 v, .bool true]) w := run_typeAssert_hasB Tryd.underlying79 (by kernel_rfl) v xT w
theorem lacks38_98 (v : Value) (xT : TypeId) (w : World) : (Instr.typeAssert (.iface 38 v) xT 98 true).run Tryd.prog w = .ok (.tuple #[.nilIface, .bool false]) w := run_typeAssert_lacksB Tryd.underlying98 (by kernel_rfl) (by kernel_rfl) v xT w
theorem typeOf81 (v : Value) (w : World) : (ReflectliteType.typeOf #[.iface 81 v]).run Tryd.prog w = .ok (.iface 93 (.agg #[.pointer (some ⟨5, 81, none⟩)])) w := by kernel_rfl
theorem comparable81 (w : World) : (ReflectliteType.method (fun t => do Rtype.noPackHeld "Comparable" t; (fun a => Value.bool a.comparable) <$> typeInfo t) #[.agg #[.pointer (some ⟨5, 81, none⟩)]]).run Tryd.prog w = .ok (.bool true) w := by kernel_rfl
theorem assignable81_25 (w : World) : (ReflectliteType.relation "AssignableTo" ReflectliteType.assignableTo #[.agg #[.pointer (some ⟨5, 81, none⟩)], .iface 93 (.agg #[.pointer (some ⟨5, 25, none⟩)])]).run Tryd.prog w = .ok (.bool false) w := by kernel_rfl
theorem assignable81_38 (w : World) : (ReflectliteType.relation "AssignableTo" ReflectliteType.assignableTo #[.agg #[.pointer (some ⟨5, 81, none⟩)], .iface 93 (.agg #[.pointer (some ⟨5, 38, none⟩)])]).run Tryd.prog w = .ok (.bool false) w := by kernel_rfl
theorem lacks81_102 (v : Value) (xT : TypeId) (w : World) : (Instr.typeAssert (.iface 81 v) xT 102 true).run Tryd.prog w = .ok (.tuple #[.nilIface, .bool false]) w := run_typeAssert_lacksB Tryd.underlying102 (by kernel_rfl) (by kernel_rfl) v xT w
theorem lacks81_95 (v : Value) (xT : TypeId) (w : World) : (Instr.typeAssert (.iface 81 v) xT 95 true).run Tryd.prog w = .ok (.tuple #[.nilIface, .bool false]) w := run_typeAssert_lacksB Tryd.underlying95 (by kernel_rfl) (by kernel_rfl) v xT w
theorem lacks81_79 (v : Value) (xT : TypeId) (w : World) : (Instr.typeAssert (.iface 81 v) xT 79 true).run Tryd.prog w = .ok (.tuple #[.nilIface, .bool false]) w := run_typeAssert_lacksB Tryd.underlying79 (by kernel_rfl) (by kernel_rfl) v xT w
theorem lacks81_98 (v : Value) (xT : TypeId) (w : World) : (Instr.typeAssert (.iface 81 v) xT 98 true).run Tryd.prog w = .ok (.tuple #[.nilIface, .bool false]) w := run_typeAssert_lacksB Tryd.underlying98 (by kernel_rfl) (by kernel_rfl) v xT w
theorem typeOf85 (v : Value) (w : World) : (ReflectliteType.typeOf #[.iface 85 v]).run Tryd.prog w = .ok (.iface 93 (.agg #[.pointer (some ⟨5, 85, none⟩)])) w := by kernel_rfl
theorem comparable85 (w : World) : (ReflectliteType.method (fun t => do Rtype.noPackHeld "Comparable" t; (fun a => Value.bool a.comparable) <$> typeInfo t) #[.agg #[.pointer (some ⟨5, 85, none⟩)]]).run Tryd.prog w = .ok (.bool true) w := by kernel_rfl
theorem assignable85_25 (w : World) : (ReflectliteType.relation "AssignableTo" ReflectliteType.assignableTo #[.agg #[.pointer (some ⟨5, 85, none⟩)], .iface 93 (.agg #[.pointer (some ⟨5, 25, none⟩)])]).run Tryd.prog w = .ok (.bool false) w := by kernel_rfl
theorem assignable85_38 (w : World) : (ReflectliteType.relation "AssignableTo" ReflectliteType.assignableTo #[.agg #[.pointer (some ⟨5, 85, none⟩)], .iface 93 (.agg #[.pointer (some ⟨5, 38, none⟩)])]).run Tryd.prog w = .ok (.bool false) w := by kernel_rfl
theorem lacks85_102 (v : Value) (xT : TypeId) (w : World) : (Instr.typeAssert (.iface 85 v) xT 102 true).run Tryd.prog w = .ok (.tuple #[.nilIface, .bool false]) w := run_typeAssert_lacksB Tryd.underlying102 (by kernel_rfl) (by kernel_rfl) v xT w
theorem lacks85_95 (v : Value) (xT : TypeId) (w : World) : (Instr.typeAssert (.iface 85 v) xT 95 true).run Tryd.prog w = .ok (.tuple #[.nilIface, .bool false]) w := run_typeAssert_lacksB Tryd.underlying95 (by kernel_rfl) (by kernel_rfl) v xT w
theorem lacks85_79 (v : Value) (xT : TypeId) (w : World) : (Instr.typeAssert (.iface 85 v) xT 79 true).run Tryd.prog w = .ok (.tuple #[.nilIface, .bool false]) w := run_typeAssert_lacksB Tryd.underlying79 (by kernel_rfl) (by kernel_rfl) v xT w
theorem has85_98 (v : Value) (xT : TypeId) (w : World) : (Instr.typeAssert (.iface 85 v) xT 98 true).run Tryd.prog w = .ok (.tuple #[.iface 85 v, .bool true]) w := run_typeAssert_hasB Tryd.underlying98 (by kernel_rfl) v xT w
theorem methodUnwrap (v : Value) (w : World) : (Go.method 338 38 v "Unwrap").run Tryd.prog w = .ok (24, v) w := by kernel_rfl
theorem methodUnwraps (v : Value) (w : World) : (Go.method 338 85 v "Unwrap").run Tryd.prog w = .ok (117, v) w := by kernel_rfl
theorem rlm (z : Sem Value) (f : TypeId → Addr → Nat → Nat → Sem Value) (v : Value) : ReflectliteValue.method z f #[v] = (do match ← ReflectliteValue.parts v with | none => z | some (t, a, fl) => f t a fl (fl % 32)) := rfl
theorem rls (v x : Value) : ReflectliteValue.set #[v, x] = (do
    let (some (dst, a, fl), some (src, b, _)) := (← ReflectliteValue.parts v, ← ReflectliteValue.parts x)
      | unsupported (.noEntry "extern/(internal/reflectlite.Value).Set.zeroValue")
    if fl / ReflectliteValue.flagAddr % 2 == 0 then unsupported (.noEntry "extern/(internal/reflectlite.Value).Set.unaddressable")
    let val ← loadVar src b
    if ← Rtype.directlyAssignable dst src then storeVar dst a val
    else if ← Rtype.implements dst src then
      if (← Rtype.kind src) == 20 then
        match val with
        | .nilIface => unsupported (.noEntry "extern/reflectlite: a nil value of one interface type handed on as a value of another")
        | _ => storeVar dst a val
      else storeVar dst a (.iface src val)
    else panicString ("reflectlite.Set: value of type " ++ (← Rtype.spelt src) ++ " is not assignable to type " ++ (← Rtype.spelt dst))
    pure (.tuple #[])) := rfl
theorem isNil61 (a p : Addr) (W : World) (ha : W.cell? a = some (.pointer (some p))) :
    (ReflectliteValue.method (ReflectliteValue.valueError "reflectlite.Value.IsNil" 0) ReflectliteValue.isNil #[.agg #[.pointer (some ⟨5, 61, none⟩), .pointer (some a), .int .u64 150]]).run Tryd.prog W = .ok (.bool false) W := by
  rw [rlm]
  simp only [Sem.run_bind, parts61, Result.andThen]
  simp [ReflectliteValue.isNil, loadVar, isAgg, underlying, Tryd.underlying61, ha, Result.andThen]
theorem elemV61 (a p : Addr) (W : World) (ha : W.cell? a = some (.pointer (some p))) :
    (ReflectliteValue.method (ReflectliteValue.valueError "reflectlite.Value.Elem" 0) ReflectliteValue.elem #[.agg #[.pointer (some ⟨5, 61, none⟩), .pointer (some a), .int .u64 150]]).run Tryd.prog W = .ok (.agg #[.pointer (some ⟨5, 25, none⟩), .pointer (some p), .int .u64 386]) W := by
  rw [rlm]
  simp only [Sem.run_bind, parts61, Result.andThen]
  simp [ReflectliteValue.elem, loadVar, isAgg, underlying, Tryd.underlying61, ha, Result.andThen, elemOf61, mk25]
theorem set25 (ta b : Addr) (k : Int) (old : Value) (W : World) (hb : W.cell? b = some (.int .i64 k)) (ht : W.cell? ta = some old) (hf : W.frozen? ta = false) :
    (ReflectliteValue.set #[.agg #[.pointer (some ⟨5, 25, none⟩), .pointer (some ta), .int .u64 386], .agg #[.pointer (some ⟨5, 25, none⟩), .pointer (some b), .int .u64 130]]).run Tryd.prog W = .ok (.tuple #[]) (W.setCell ta (.int .i64 k)) := by
  rw [rls]
  simp only [Sem.run_bind, parts25a, parts25, Result.andThen]
  simp [ReflectliteValue.flagAddr, loadVar, isAgg, underlying, Tryd.underlying25, hb, Result.andThen, direct25, storeVar, Value.cells, storeCells, Addr.add]
  rw [run_store Tryd.prog W ta _ _ (by rfl)]
  simp [ht, hf]
theorem isNil40 (a p : Addr) (W : World) (ha : W.cell? a = some (.pointer (some p))) :
    (ReflectliteValue.method (ReflectliteValue.valueError "reflectlite.Value.IsNil" 0) ReflectliteValue.isNil #[.agg #[.pointer (some ⟨5, 40, none⟩), .pointer (some a), .int .u64 150]]).run Tryd.prog W = .ok (.bool false) W := by
  rw [rlm]
  simp only [Sem.run_bind, parts40, Result.andThen]
  simp [ReflectliteValue.isNil, loadVar, isAgg, underlying, Tryd.underlying40, ha, Result.andThen]
theorem elemV40 (a p : Addr) (W : World) (ha : W.cell? a = some (.pointer (some p))) :
    (ReflectliteValue.method (ReflectliteValue.valueError "reflectlite.Value.Elem" 0) ReflectliteValue.elem #[.agg #[.pointer (some ⟨5, 40, none⟩), .pointer (some a), .int .u64 150]]).run Tryd.prog W = .ok (.agg #[.pointer (some ⟨5, 38, none⟩), .pointer (some p), .int .u64 406]) W := by
  rw [rlm]
  simp only [Sem.run_bind, parts40, Result.andThen]
  simp [ReflectliteValue.elem, loadVar, isAgg, underlying, Tryd.underlying40, ha, Result.andThen, elemOf40, mk38]
theorem set38 (ta b : Addr) (x : Addr) (old : Value) (W : World) (hb : W.cell? b = some (.pointer (some x))) (ht : W.cell? ta = some old) (hf : W.frozen? ta = false) :
    (ReflectliteValue.set #[.agg #[.pointer (some ⟨5, 38, none⟩), .pointer (some ta), .int .u64 406], .agg #[.pointer (some ⟨5, 38, none⟩), .pointer (some b), .int .u64 150]]).run Tryd.prog W = .ok (.tuple #[]) (W.setCell ta (.pointer (some x))) := by
  rw [rls]
  simp only [Sem.run_bind, parts38a, parts38, Result.andThen]
  simp [ReflectliteValue.flagAddr, loadVar, isAgg, underlying, Tryd.underlying38, hb, Result.andThen, direct38, storeVar, Value.cells, storeCells, Addr.add]
  rw [run_store Tryd.prog W ta _ _ (by rfl)]
  simp [ht, hf]
end Go.Proofs.YtpkdfjlkhfjlcaaDoor.Er
