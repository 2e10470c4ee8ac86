import Derived.Test.YtfabnapjbgamaaaGreatDoorProg
import Derived.WalkKit
import Derived.LaidEql
import Derived.Stop.Asserts
import Derived.RowKitTokens
import Derived.Below
/-! Closed facts on the model's entries for internal/reflectlite and on type assertions, at this program's types. -/
namespace Go.Proofs.YtfabnapjbgamaaaGreatDoor.Er
open Go.RowKit Go.Extern.Stop Go.Stop Go.Extern
set_option linter.unusedVariables false
theorem valueOf81 (t : Addr) (w : World) : (ReflectliteValue.unpack (.iface 81 (.pointer (some t)))).run Tryz.prog w = .ok (.agg #[.pointer (some ⟨5, 81, none⟩), .pointer (some ⟨w.heap.size, 0, none⟩), .int .u64 150]) (w.alloc (.cells #[.pointer (some t)] 81)) := by kernel_rfl
theorem type81 (a : Addr) (w : World) : (ReflectliteValue.methodAny (ReflectliteValue.valueError "reflectlite.Value.Type" 0) (fun t _ _ _ => ReflectliteType.toType t) #[.agg #[.pointer (some ⟨5, 81, none⟩), .pointer (some a), .int .u64 150]]).run Tryz.prog w = .ok (.iface 98 (.agg #[.pointer (some ⟨5, 81, none⟩)])) w := by kernel_rfl
theorem kind81 (w : World) : ((ReflectliteType.abiMethod fun t => (fun a : Nat => Value.int IntKind.u8 (a : Int)) <$> Rtype.kind t) #[.pointer (some ⟨5, 81, none⟩)]).run Tryz.prog w = .ok (.int .u8 22) w := by kernel_rfl
theorem kind32 (w : World) : ((ReflectliteType.abiMethod fun t => (fun a : Nat => Value.int IntKind.u8 (a : Int)) <$> Rtype.kind t) #[.pointer (some ⟨5, 32, none⟩)]).run Tryz.prog w = .ok (.int .u8 2) w := by kernel_rfl
theorem parts81 (a : Addr) (w : World) : (ReflectliteValue.parts (.agg #[.pointer (some ⟨5, 81, none⟩), .pointer (some a), .int .u64 150])).run Tryz.prog w = .ok (some (81, a, 150)) w := by kernel_rfl
theorem elem81 (w : World) : (ReflectliteType.method ReflectliteType.elem #[.agg #[.pointer (some ⟨5, 81, none⟩)]]).run Tryz.prog w = .ok (.iface 98 (.agg #[.pointer (some ⟨5, 32, none⟩)])) w := by kernel_rfl
theorem implements32 (w : World) : (ReflectliteType.relation "Implements" ReflectliteType.implements_ #[.agg #[.pointer (some ⟨5, 32, none⟩)], .iface 98 (.agg #[.pointer (some ⟨5, 27, none⟩)])]).run Tryz.prog w = .ok (.bool true) w := by kernel_rfl
theorem elemOf81 (w : World) : (Rtype.elem? 81).run Tryz.prog w = .ok (some 32) w := by kernel_rfl
theorem mk32 (p : Addr) (w : World) : (ReflectliteValue.mk 32 p ReflectliteValue.flagAddr).run Tryz.prog w = .ok (.agg #[.pointer (some ⟨5, 32, none⟩), .pointer (some p), .int .u64 386]) w := by kernel_rfl
theorem parts32a (a : Addr) (w : World) : (ReflectliteValue.parts (.agg #[.pointer (some ⟨5, 32, none⟩), .pointer (some a), .int .u64 386])).run Tryz.prog w = .ok (some (32, a, 386)) w := by kernel_rfl
theorem parts32 (a : Addr) (w : World) : (ReflectliteValue.parts (.agg #[.pointer (some ⟨5, 32, none⟩), .pointer (some a), .int .u64 130])).run Tryz.prog w = .ok (some (32, a, 130)) w := by kernel_rfl
theorem direct32 (w : World) : (Rtype.directlyAssignable 32 32).run Tryz.prog w = .ok true w := by kernel_rfl
theorem size32 (w : World) : (sizeOf 32).run Tryz.prog w = .ok 1 w := by kernel_rfl
theorem valueOf32 (k : Int) (w : World) : (ReflectliteValue.unpack (.iface 32 (.int .i64 k))).run Tryz.prog w = .ok (.agg #[.pointer (some ⟨5, 32, none⟩), .pointer (some ⟨w.heap.size, 0, none⟩), .int .u64 130]) (w.alloc (.cells #[.int .i64 k] 32)) := by kernel_rfl
theorem valueOf75 (t : Addr) (w : World) : (ReflectliteValue.unpack (.iface 75 (.pointer (some t)))).run Tryz.prog w = .ok (.agg #[.pointer (some ⟨5, 75, none⟩), .pointer (some ⟨w.heap.size, 0, none⟩), .int .u64 150]) (w.alloc (.cells #[.pointer (some t)] 75)) := by kernel_rfl
theorem type75 (a : Addr) (w : World) : (ReflectliteValue.methodAny (ReflectliteValue.valueError "reflectlite.Value.Type" 0) (fun t _ _ _ => ReflectliteType.toType t) #[.agg #[.pointer (some ⟨5, 75, none⟩), .pointer (some a), .int .u64 150]]).run Tryz.prog w = .ok (.iface 98 (.agg #[.pointer (some ⟨5, 75, none⟩)])) w := by kernel_rfl
theorem kind75 (w : World) : ((ReflectliteType.abiMethod fun t => (fun a : Nat => Value.int IntKind.u8 (a : Int)) <$> Rtype.kind t) #[.pointer (some ⟨5, 75, none⟩)]).run Tryz.prog w = .ok (.int .u8 22) w := by kernel_rfl
theorem kind73 (w : World) : ((ReflectliteType.abiMethod fun t => (fun a : Nat => Value.int IntKind.u8 (a : Int)) <$> Rtype.kind t) #[.pointer (some ⟨5, 73, none⟩)]).run Tryz.prog w = .ok (.int .u8 22) w := by kernel_rfl
theorem parts75 (a : Addr) (w : World) : (ReflectliteValue.parts (.agg #[.pointer (some ⟨5, 75, none⟩), .pointer (some a), .int .u64 150])).run Tryz.prog w = .ok (some (75, a, 150)) w := by kernel_rfl
theorem elem75 (w : World) : (ReflectliteType.method ReflectliteType.elem #[.agg #[.pointer (some ⟨5, 75, none⟩)]]).run Tryz.prog w = .ok (.iface 98 (.agg #[.pointer (some ⟨5, 73, none⟩)])) w := by kernel_rfl
theorem implements73 (w : World) : (ReflectliteType.relation "Implements" ReflectliteType.implements_ #[.agg #[.pointer (some ⟨5, 73, none⟩)], .iface 98 (.agg #[.pointer (some ⟨5, 27, none⟩)])]).run Tryz.prog w = .ok (.bool true) w := by kernel_rfl
theorem elemOf75 (w : World) : (Rtype.elem? 75).run Tryz.prog w = .ok (some 73) w := by kernel_rfl
theorem mk73 (p : Addr) (w : World) : (ReflectliteValue.mk 73 p ReflectliteValue.flagAddr).run Tryz.prog w = .ok (.agg #[.pointer (some ⟨5, 73, none⟩), .pointer (some p), .int .u64 406]) w := by kernel_rfl
theorem parts73a (a : Addr) (w : World) : (ReflectliteValue.parts (.agg #[.pointer (some ⟨5, 73, none⟩), .pointer (some a), .int .u64 406])).run Tryz.prog w = .ok (some (73, a, 406)) w := by kernel_rfl
theorem parts73 (a : Addr) (w : World) : (ReflectliteValue.parts (.agg #[.pointer (some ⟨5, 73, none⟩), .pointer (some a), .int .u64 150])).run Tryz.prog w = .ok (some (73, a, 150)) w := by kernel_rfl
theorem direct73 (w : World) : (Rtype.directlyAssignable 73 73).run Tryz.prog w = .ok true w := by kernel_rfl
theorem size73 (w : World) : (sizeOf 73).run Tryz.prog w = .ok 1 w := by kernel_rfl
theorem valueOf73 (a : Addr) (w : World) : (ReflectliteValue.unpack (.iface 73 (.pointer (some a)))).run Tryz.prog w = .ok (.agg #[.pointer (some ⟨5, 73, none⟩), .pointer (some ⟨w.heap.size, 0, none⟩), .int .u64 150]) (w.alloc (.cells #[.pointer (some a)] 73)) := by kernel_rfl
theorem methodKind (h : Value) (w : World) : (Go.method 351 98 (.agg #[h]) "Kind").run Tryz.prog w = .ok (129, h) w := by kernel_rfl
theorem methodElem (h : Value) (w : World) : (Go.method 351 98 (.agg #[h]) "Elem").run Tryz.prog w = .ok (139, .agg #[h]) w := by kernel_rfl
theorem methodImplements (h : Value) (w : World) : (Go.method 351 98 (.agg #[h]) "Implements").run Tryz.prog w = .ok (140, .agg #[h]) w := by kernel_rfl
theorem methodAssignableTo (h : Value) (w : World) : (Go.method 351 98 (.agg #[h]) "AssignableTo").run Tryz.prog w = .ok (137, .agg #[h]) w := by kernel_rfl
theorem methodComparable (h : Value) (w : World) : (Go.method 351 98 (.agg #[h]) "Comparable").run Tryz.prog w = .ok (138, .agg #[h]) w := by kernel_rfl
theorem typeOf32 (v : Value) (w : World) : (ReflectliteType.typeOf #[.iface 32 v]).run Tryz.prog w = .ok (.iface 98 (.agg #[.pointer (some ⟨5, 32, none⟩)])) w := by kernel_rfl
theorem comparable32 (w : World) : (ReflectliteType.method (fun t => do Rtype.noPackHeld "Comparable" t; (fun a => Value.bool a.comparable) <$> typeInfo t) #[.agg #[.pointer (some ⟨5, 32, none⟩)]]).run Tryz.prog w = .ok (.bool true) w := by kernel_rfl
theorem assignable32_32 (w : World) : (ReflectliteType.relation "AssignableTo" ReflectliteType.assignableTo #[.agg #[.pointer (some ⟨5, 32, none⟩)], .iface 98 (.agg #[.pointer (some ⟨5, 32, none⟩)])]).run Tryz.prog w = .ok (.bool true) w := by kernel_rfl
theorem assignable32_73 (w : World) : (ReflectliteType.relation "AssignableTo" ReflectliteType.assignableTo #[.agg #[.pointer (some ⟨5, 32, none⟩)], .iface 98 (.agg #[.pointer (some ⟨5, 73, none⟩)])]).run Tryz.prog w = .ok (.bool false) w := by kernel_rfl
theorem lacks32_124 (v : Value) (xT : TypeId) (w : World) : (Instr.typeAssert (.iface 32 v) xT 124 true).run Tryz.prog w = .ok (.tuple #[.nilIface, .bool false]) w := run_typeAssert_lacksB Tryz.underlying124 (by kernel_rfl) (by kernel_rfl) v xT w
theorem lacks32_100 (v : Value) (xT : TypeId) (w : World) : (Instr.typeAssert (.iface 32 v) xT 100 true).run Tryz.prog w = .ok (.tuple #[.nilIface, .bool false]) w := run_typeAssert_lacksB Tryz.underlying100 (by kernel_rfl) (by kernel_rfl) v xT w
theorem lacks32_103 (v : Value) (xT : TypeId) (w : World) : (Instr.typeAssert (.iface 32 v) xT 103 true).run Tryz.prog w = .ok (.tuple #[.nilIface, .bool false]) w := run_typeAssert_lacksB Tryz.underlying103 (by kernel_rfl) (by kernel_rfl) v xT w
theorem lacks32_105 (v : Value) (xT : TypeId) (w : World) : (Instr.typeAssert (.iface 32 v) xT 105 true).run Tryz.prog w = .ok (.tuple #[.nilIface, .bool false]) w := run_typeAssert_lacksB Tryz.underlying105 (by kernel_rfl) (by kernel_rfl) v xT w
theorem typeOf73 (v : Value) (w : World) : (ReflectliteType.typeOf #[.iface 73 v]).run Tryz.prog w = .ok (.iface 98 (.agg #[.pointer (some ⟨5, 73, none⟩)])) w := by kernel_rfl
theorem comparable73 (w : World) : (ReflectliteType.method (fun t => do Rtype.noPackHeld "Comparable" t; (fun a => Value.bool a.comparable) <$> typeInfo t) #[.agg #[.pointer (some ⟨5, 73, none⟩)]]).run Tryz.prog w = .ok (.bool true) w := by kernel_rfl
theorem assignable73_32 (w : World) : (ReflectliteType.relation "AssignableTo" ReflectliteType.assignableTo #[.agg #[.pointer (some ⟨5, 73, none⟩)], .iface 98 (.agg #[.pointer (some ⟨5, 32, none⟩)])]).run Tryz.prog w = .ok (.bool false) w := by kernel_rfl
theorem assignable73_73 (w : World) : (ReflectliteType.relation "AssignableTo" ReflectliteType.assignableTo #[.agg #[.pointer (some ⟨5, 73, none⟩)], .iface 98 (.agg #[.pointer (some ⟨5, 73, none⟩)])]).run Tryz.prog w = .ok (.bool true) w := by kernel_rfl
theorem lacks73_124 (v : Value) (xT : TypeId) (w : World) : (Instr.typeAssert (.iface 73 v) xT 124 true).run Tryz.prog w = .ok (.tuple #[.nilIface, .bool false]) w := run_typeAssert_lacksB Tryz.underlying124 (by kernel_rfl) (by kernel_rfl) v xT w
theorem lacks73_100 (v : Value) (xT : TypeId) (w : World) : (Instr.typeAssert (.iface 73 v) xT 100 true).run Tryz.prog w = .ok (.tuple #[.nilIface, .bool false]) w := run_typeAssert_lacksB Tryz.underlying100 (by kernel_rfl) (by kernel_rfl) v xT w
theorem has73_103 (v : Value) (xT : TypeId) (w : World) : (Instr.typeAssert (.iface 73 v) xT 103 true).run Tryz.prog w = .ok (.tuple #[.iface 73 v, .bool true]) w := run_typeAssert_hasB Tryz.underlying103 (by kernel_rfl) v xT w
theorem lacks73_105 (v : Value) (xT : TypeId) (w : World) : (Instr.typeAssert (.iface 73 v) xT 105 true).run Tryz.prog w = .ok (.tuple #[.nilIface, .bool false]) w := run_typeAssert_lacksB Tryz.underlying105 (by kernel_rfl) (by kernel_rfl) v xT w
theorem methodUnwrap (v : Value) (w : World) : (Go.method 351 73 v "Unwrap").run Tryz.prog w = .ok (134, v) w := by kernel_rfl
theorem rlm (z : Sem Value) (f : TypeId → Addr → Nat → Nat → Sem Value) (v : Value) : ReflectliteValue.method z f #[v] = (do match ← ReflectliteValue.parts v with | none => z | some (t, a, fl) => f t a fl (fl % 32)) := rfl
theorem rls (v x : Value) : ReflectliteValue.set #[v, x] = (do
    let (some (dst, a, fl), some (src, b, _)) := (← ReflectliteValue.parts v, ← ReflectliteValue.parts x)
      | unsupported (.noEntry "extern/(internal/reflectlite.Value).Set.zeroValue")
    if fl / ReflectliteValue.flagAddr % 2 == 0 then unsupported (.noEntry "extern/(internal/reflectlite.Value).Set.unaddressable")
    let val ← loadVar src b
    if ← Rtype.directlyAssignable dst src then storeVar dst a val
    else if ← Rtype.implements dst src then
      if (← Rtype.kind src) == 20 then
        match val with
        | .nilIface => unsupported (.noEntry "extern/reflectlite: a nil value of one interface type handed on as a value of another")
        | _ => storeVar dst a val
      else storeVar dst a (.iface src val)
    else panicString ("reflectlite.Set: value of type " ++ (← Rtype.spelt src) ++ " is not assignable to type " ++ (← Rtype.spelt dst))
    pure (.tuple #[])) := rfl
theorem isNil81 (a p : Addr) (W : World) (ha : W.cell? a = some (.pointer (some p))) :
    (ReflectliteValue.method (ReflectliteValue.valueError "reflectlite.Value.IsNil" 0) ReflectliteValue.isNil #[.agg #[.pointer (some ⟨5, 81, none⟩), .pointer (some a), .int .u64 150]]).run Tryz.prog W = .ok (.bool false) W := by
  rw [rlm]
  simp only [Sem.run_bind, parts81, Result.andThen]
  simp [ReflectliteValue.isNil, loadVar, isAgg, underlying, Tryz.underlying81, ha, Result.andThen]
theorem elemV81 (a p : Addr) (W : World) (ha : W.cell? a = some (.pointer (some p))) :
    (ReflectliteValue.method (ReflectliteValue.valueError "reflectlite.Value.Elem" 0) ReflectliteValue.elem #[.agg #[.pointer (some ⟨5, 81, none⟩), .pointer (some a), .int .u64 150]]).run Tryz.prog W = .ok (.agg #[.pointer (some ⟨5, 32, none⟩), .pointer (some p), .int .u64 386]) W := by
  rw [rlm]
  simp only [Sem.run_bind, parts81, Result.andThen]
  simp [ReflectliteValue.elem, loadVar, isAgg, underlying, Tryz.underlying81, ha, Result.andThen, elemOf81, mk32]
theorem set32 (ta b : Addr) (k : Int) (old : Value) (W : World) (hb : W.cell? b = some (.int .i64 k)) (ht : W.cell? ta = some old) (hf : W.frozen? ta = false) :
    (ReflectliteValue.set #[.agg #[.pointer (some ⟨5, 32, none⟩), .pointer (some ta), .int .u64 386], .agg #[.pointer (some ⟨5, 32, none⟩), .pointer (some b), .int .u64 130]]).run Tryz.prog W = .ok (.tuple #[]) (W.setCell ta (.int .i64 k)) := by
  rw [rls]
  simp only [Sem.run_bind, parts32a, parts32, Result.andThen]
  simp [ReflectliteValue.flagAddr, loadVar, isAgg, underlying, Tryz.underlying32, hb, Result.andThen, direct32, storeVar, Value.cells, storeCells, Addr.add]
  rw [run_store Tryz.prog W ta _ _ (by rfl)]
  simp [ht, hf]
theorem isNil75 (a p : Addr) (W : World) (ha : W.cell? a = some (.pointer (some p))) :
    (ReflectliteValue.method (ReflectliteValue.valueError "reflectlite.Value.IsNil" 0) ReflectliteValue.isNil #[.agg #[.pointer (some ⟨5, 75, none⟩), .pointer (some a), .int .u64 150]]).run Tryz.prog W = .ok (.bool false) W := by
  rw [rlm]
  simp only [Sem.run_bind, parts75, Result.andThen]
  simp [ReflectliteValue.isNil, loadVar, isAgg, underlying, Tryz.underlying75, ha, Result.andThen]
theorem elemV75 (a p : Addr) (W : World) (ha : W.cell? a = some (.pointer (some p))) :
    (ReflectliteValue.method (ReflectliteValue.valueError "reflectlite.Value.Elem" 0) ReflectliteValue.elem #[.agg #[.pointer (some ⟨5, 75, none⟩), .pointer (some a), .int .u64 150]]).run Tryz.prog W = .ok (.agg #[.pointer (some ⟨5, 73, none⟩), .pointer (some p), .int .u64 406]) W := by
  rw [rlm]
  simp only [Sem.run_bind, parts75, Result.andThen]
  simp [ReflectliteValue.elem, loadVar, isAgg, underlying, Tryz.underlying75, ha, Result.andThen, elemOf75, mk73]
theorem set73 (ta b : Addr) (x : Addr) (old : Value) (W : World) (hb : W.cell? b = some (.pointer (some x))) (ht : W.cell? ta = some old) (hf : W.frozen? ta = false) :
    (ReflectliteValue.set #[.agg #[.pointer (some ⟨5, 73, none⟩), .pointer (some ta), .int .u64 406], .agg #[.pointer (some ⟨5, 73, none⟩), .pointer (some b), .int .u64 150]]).run Tryz.prog W = .ok (.tuple #[]) (W.setCell ta (.pointer (some x))) := by
  rw [rls]
  simp only [Sem.run_bind, parts73a, parts73, Result.andThen]
  simp [ReflectliteValue.flagAddr, loadVar, isAgg, underlying, Tryz.underlying73, hb, Result.andThen, direct73, storeVar, Value.cells, storeCells, Addr.add]
  rw [run_store Tryz.prog W ta _ _ (by rfl)]
  simp [ht, hf]
end Go.Proofs.YtfabnapjbgamaaaGreatDoor.Er
