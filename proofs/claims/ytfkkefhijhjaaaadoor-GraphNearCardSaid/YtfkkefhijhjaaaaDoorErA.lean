import Derived.Test.YtfkkefhijhjaaaaDoorProg
import Derived.WalkKit
import Derived.LaidEql
import Derived.Stop.Asserts
import Derived.RowKitTokens
import Derived.Below
/-! Closed facts on the model's entries for internal/reflectlite and on type assertions, at this program's types. -/
namespace Go.Proofs.YtfkkefhijhjaaaaDoor.Er
open Go.RowKit Go.Extern.Stop Go.Stop Go.Extern
set_option linter.unusedVariables false
theorem valueOf85 (t : Addr) (w : World) : (ReflectliteValue.unpack (.iface 85 (.pointer (some t)))).run Tryd.prog w = .ok (.agg #[.pointer (some ⟨1, 85, none⟩), .pointer (some ⟨w.heap.size, 0, none⟩), .int .u64 150]) (w.alloc (.cells #[.pointer (some t)] 85)) := by kernel_rfl
theorem type85 (a : Addr) (w : World) : (ReflectliteValue.methodAny (ReflectliteValue.valueError "reflectlite.Value.Type" 0) (fun t _ _ _ => ReflectliteType.toType t) #[.agg #[.pointer (some ⟨1, 85, none⟩), .pointer (some a), .int .u64 150]]).run Tryd.prog w = .ok (.iface 144 (.agg #[.pointer (some ⟨1, 85, none⟩)])) w := by kernel_rfl
theorem kind85 (w : World) : ((ReflectliteType.abiMethod fun t => (fun a : Nat => Value.int IntKind.u8 (a : Int)) <$> Rtype.kind t) #[.pointer (some ⟨1, 85, none⟩)]).run Tryd.prog w = .ok (.int .u8 22) w := by kernel_rfl
theorem kind39 (w : World) : ((ReflectliteType.abiMethod fun t => (fun a : Nat => Value.int IntKind.u8 (a : Int)) <$> Rtype.kind t) #[.pointer (some ⟨1, 39, none⟩)]).run Tryd.prog w = .ok (.int .u8 2) w := by kernel_rfl
theorem parts85 (a : Addr) (w : World) : (ReflectliteValue.parts (.agg #[.pointer (some ⟨1, 85, none⟩), .pointer (some a), .int .u64 150])).run Tryd.prog w = .ok (some (85, a, 150)) w := by kernel_rfl
theorem elem85 (w : World) : (ReflectliteType.method ReflectliteType.elem #[.agg #[.pointer (some ⟨1, 85, none⟩)]]).run Tryd.prog w = .ok (.iface 144 (.agg #[.pointer (some ⟨1, 39, none⟩)])) w := by kernel_rfl
theorem implements39 (w : World) : (ReflectliteType.relation "Implements" ReflectliteType.implements_ #[.agg #[.pointer (some ⟨1, 39, none⟩)], .iface 144 (.agg #[.pointer (some ⟨1, 29, none⟩)])]).run Tryd.prog w = .ok (.bool true) w := by kernel_rfl
theorem elemOf85 (w : World) : (Rtype.elem? 85).run Tryd.prog w = .ok (some 39) w := by kernel_rfl
theorem mk39 (p : Addr) (w : World) : (ReflectliteValue.mk 39 p ReflectliteValue.flagAddr).run Tryd.prog w = .ok (.agg #[.pointer (some ⟨1, 39, none⟩), .pointer (some p), .int .u64 386]) w := by kernel_rfl
theorem parts39a (a : Addr) (w : World) : (ReflectliteValue.parts (.agg #[.pointer (some ⟨1, 39, none⟩), .pointer (some a), .int .u64 386])).run Tryd.prog w = .ok (some (39, a, 386)) w := by kernel_rfl
theorem parts39 (a : Addr) (w : World) : (ReflectliteValue.parts (.agg #[.pointer (some ⟨1, 39, none⟩), .pointer (some a), .int .u64 130])).run Tryd.prog w = .ok (some (39, a, 130)) w := by kernel_rfl
theorem direct39 (w : World) : (Rtype.directlyAssignable 39 39).run Tryd.prog w = .ok true w := by kernel_rfl
theorem size39 (w : World) : (sizeOf 39).run Tryd.prog w = .ok 1 w := by kernel_rfl
theorem valueOf39 (k : Int) (w : World) : (ReflectliteValue.unpack (.iface 39 (.int .i64 k))).run Tryd.prog w = .ok (.agg #[.pointer (some ⟨1, 39, none⟩), .pointer (some ⟨w.heap.size, 0, none⟩), .int .u64 130]) (w.alloc (.cells #[.int .i64 k] 39)) := by kernel_rfl
theorem valueOf87 (t : Addr) (w : World) : (ReflectliteValue.unpack (.iface 87 (.pointer (some t)))).run Tryd.prog w = .ok (.agg #[.pointer (some ⟨1, 87, none⟩), .pointer (some ⟨w.heap.size, 0, none⟩), .int .u64 150]) (w.alloc (.cells #[.pointer (some t)] 87)) := by kernel_rfl
theorem type87 (a : Addr) (w : World) : (ReflectliteValue.methodAny (ReflectliteValue.valueError "reflectlite.Value.Type" 0) (fun t _ _ _ => ReflectliteType.toType t) #[.agg #[.pointer (some ⟨1, 87, none⟩), .pointer (some a), .int .u64 150]]).run Tryd.prog w = .ok (.iface 144 (.agg #[.pointer (some ⟨1, 87, none⟩)])) w := by kernel_rfl
theorem kind87 (w : World) : ((ReflectliteType.abiMethod fun t => (fun a : Nat => Value.int IntKind.u8 (a : Int)) <$> Rtype.kind t) #[.pointer (some ⟨1, 87, none⟩)]).run Tryd.prog w = .ok (.int .u8 22) w := by kernel_rfl
theorem kind86 (w : World) : ((ReflectliteType.abiMethod fun t => (fun a : Nat => Value.int IntKind.u8 (a : Int)) <$> Rtype.kind t) #[.pointer (some ⟨1, 86, none⟩)]).run Tryd.prog w = .ok (.int .u8 22) w := by kernel_rfl
theorem parts87 (a : Addr) (w : World) : (ReflectliteValue.parts (.agg #[.pointer (some ⟨1, 87, none⟩), .pointer (some a), .int .u64 150])).run Tryd.prog w = .ok (some (87, a, 150)) w := by kernel_rfl
theorem elem87 (w : World) : (ReflectliteType.method ReflectliteType.elem #[.agg #[.pointer (some ⟨1, 87, none⟩)]]).run Tryd.prog w = .ok (.iface 144 (.agg #[.pointer (some ⟨1, 86, none⟩)])) w := by kernel_rfl
theorem implements86 (w : World) : (ReflectliteType.relation "Implements" ReflectliteType.implements_ #[.agg #[.pointer (some ⟨1, 86, none⟩)], .iface 144 (.agg #[.pointer (some ⟨1, 29, none⟩)])]).run Tryd.prog w = .ok (.bool true) w := by kernel_rfl
theorem elemOf87 (w : World) : (Rtype.elem? 87).run Tryd.prog w = .ok (some 86) w := by kernel_rfl
theorem mk86 (p : Addr) (w : World) : (ReflectliteValue.mk 86 p ReflectliteValue.flagAddr).run Tryd.prog w = .ok (.agg #[.pointer (some ⟨1, 86, none⟩), .pointer (some p), .int .u64 406]) w := by kernel_rfl
theorem parts86a (a : Addr) (w : World) : (ReflectliteValue.parts (.agg #[.pointer (some ⟨1, 86, none⟩), .pointer (some a), .int .u64 406])).run Tryd.prog w = .ok (some (86, a, 406)) w := by kernel_rfl
theorem parts86 (a : Addr) (w : World) : (ReflectliteValue.parts (.agg #[.pointer (some ⟨1, 86, none⟩), .pointer (some a), .int .u64 150])).run Tryd.prog w = .ok (some (86, a, 150)) w := by kernel_rfl
theorem direct86 (w : World) : (Rtype.directlyAssignable 86 86).run Tryd.prog w = .ok true w := by kernel_rfl
theorem size86 (w : World) : (sizeOf 86).run Tryd.prog w = .ok 1 w := by kernel_rfl
theorem valueOf86 (a : Addr) (w : World) : (ReflectliteValue.unpack (.iface 86 (.pointer (some a)))).run Tryd.prog w = .ok (.agg #[.pointer (some ⟨1, 86, none⟩), .pointer (some ⟨w.heap.size, 0, none⟩), .int .u64 150]) (w.alloc (.cells #[.pointer (some a)] 86)) := by kernel_rfl
theorem methodKind (h : Value) (w : World) : (Go.method 313 144 (.agg #[h]) "Kind").run Tryd.prog w = .ok (123, h) w := by kernel_rfl
theorem methodElem (h : Value) (w : World) : (Go.method 313 144 (.agg #[h]) "Elem").run Tryd.prog w = .ok (135, .agg #[h]) w := by kernel_rfl
theorem methodImplements (h : Value) (w : World) : (Go.method 313 144 (.agg #[h]) "Implements").run Tryd.prog w = .ok (136, .agg #[h]) w := by kernel_rfl
theorem methodAssignableTo (h : Value) (w : World) : (Go.method 313 144 (.agg #[h]) "AssignableTo").run Tryd.prog w = .ok (133, .agg #[h]) w := by kernel_rfl
theorem methodComparable (h : Value) (w : World) : (Go.method 313 144 (.agg #[h]) "Comparable").run Tryd.prog w = .ok (134, .agg #[h]) w := by kernel_rfl
theorem typeOf39 (v : Value) (w : World) : (ReflectliteType.typeOf #[.iface 39 v]).run Tryd.prog w = .ok (.iface 144 (.agg #[.pointer (some ⟨1, 39, none⟩)])) w := by kernel_rfl
theorem comparable39 (w : World) : (ReflectliteType.method (fun t => do Rtype.noPackHeld "Comparable" t; (fun a => Value.bool a.comparable) <$> typeInfo t) #[.agg #[.pointer (some ⟨1, 39, none⟩)]]).run Tryd.prog w = .ok (.bool true) w := by kernel_rfl
theorem assignable39_39 (w : World) : (ReflectliteType.relation "AssignableTo" ReflectliteType.assignableTo #[.agg #[.pointer (some ⟨1, 39, none⟩)], .iface 144 (.agg #[.pointer (some ⟨1, 39, none⟩)])]).run Tryd.prog w = .ok (.bool true) w := by kernel_rfl
theorem assignable39_86 (w : World) : (ReflectliteType.relation "AssignableTo" ReflectliteType.assignableTo #[.agg #[.pointer (some ⟨1, 39, none⟩)], .iface 144 (.agg #[.pointer (some ⟨1, 86, none⟩)])]).run Tryd.prog w = .ok (.bool false) w := by kernel_rfl
theorem lacks39_149 (v : Value) (xT : TypeId) (w : World) : (Instr.typeAssert (.iface 39 v) xT 149 true).run Tryd.prog w = .ok (.tuple #[.nilIface, .bool false]) w := run_typeAssert_lacksB Tryd.underlying149 (by kernel_rfl) (by kernel_rfl) v xT w
theorem lacks39_152 (v : Value) (xT : TypeId) (w : World) : (Instr.typeAssert (.iface 39 v) xT 152 true).run Tryd.prog w = .ok (.tuple #[.nilIface, .bool false]) w := run_typeAssert_lacksB Tryd.underlying152 (by kernel_rfl) (by kernel_rfl) v xT w
theorem lacks39_154 (v : Value) (xT : TypeId) (w : World) : (Instr.typeAssert (.iface 39 v) xT 154 true).run Tryd.prog w = .ok (.tuple #[.nilIface, .bool false]) w := run_typeAssert_lacksB Tryd.underlying154 (by kernel_rfl) (by kernel_rfl) v xT w
theorem typeOf86 (v : Value) (w : World) : (ReflectliteType.typeOf #[.iface 86 v]).run Tryd.prog w = .ok (.iface 144 (.agg #[.pointer (some ⟨1, 86, none⟩)])) w := by kernel_rfl
theorem comparable86 (w : World) : (ReflectliteType.method (fun t => do Rtype.noPackHeld "Comparable" t; (fun a => Value.bool a.comparable) <$> typeInfo t) #[.agg #[.pointer (some ⟨1, 86, none⟩)]]).run Tryd.prog w = .ok (.bool true) w := by kernel_rfl
theorem assignable86_39 (w : World) : (ReflectliteType.relation "AssignableTo" ReflectliteType.assignableTo #[.agg #[.pointer (some ⟨1, 86, none⟩)], .iface 144 (.agg #[.pointer (some ⟨1, 39, none⟩)])]).run Tryd.prog w = .ok (.bool false) w := by kernel_rfl
theorem assignable86_86 (w : World) : (ReflectliteType.relation "AssignableTo" ReflectliteType.assignableTo #[.agg #[.pointer (some ⟨1, 86, none⟩)], .iface 144 (.agg #[.pointer (some ⟨1, 86, none⟩)])]).run Tryd.prog w = .ok (.bool true) w := by kernel_rfl
theorem lacks86_149 (v : Value) (xT : TypeId) (w : World) : (Instr.typeAssert (.iface 86 v) xT 149 true).run Tryd.prog w = .ok (.tuple #[.nilIface, .bool false]) w := run_typeAssert_lacksB Tryd.underlying149 (by kernel_rfl) (by kernel_rfl) v xT w
theorem has86_152 (v : Value) (xT : TypeId) (w : World) : (Instr.typeAssert (.iface 86 v) xT 152 true).run Tryd.prog w = .ok (.tuple #[.iface 86 v, .bool true]) w := run_typeAssert_hasB Tryd.underlying152 (by kernel_rfl) v xT w
theorem lacks86_154 (v : Value) (xT : TypeId) (w : World) : (Instr.typeAssert (.iface 86 v) xT 154 true).run Tryd.prog w = .ok (.tuple #[.nilIface, .bool false]) w := run_typeAssert_lacksB Tryd.underlying154 (by kernel_rfl) (by kernel_rfl) v xT w
theorem methodUnwrap (v : Value) (w : World) : (Go.method 313 86 v "Unwrap").run Tryd.prog w = .ok (128, v) w := by kernel_rfl
theorem rlm (z : Sem Value) (f : TypeId → Addr → Nat → Nat → Sem Value) (v : Value) : ReflectliteValue.method z f #[v] = (do match ← ReflectliteValue.parts v with | none => z | some (t, a, fl) => f t a fl (fl % 32)) := rfl
theorem rls (v x : Value) : ReflectliteValue.set #[v, x] = (do
    let (some (dst, a, fl), some (src, b, _)) := (← ReflectliteValue.parts v, ← ReflectliteValue.parts x)
      | unsupported (.noEntry "extern/(internal/reflectlite.Value).Set.zeroValue")
    if fl / ReflectliteValue.flagAddr % 2 == 0 then unsupported (.noEntry "extern/(internal/reflectlite.Value).Set.unaddressable")
    let val ← loadVar src b
    if ← Rtype.directlyAssignable dst src then storeVar dst a val
    else if ← Rtype.implements dst src then
      if (← Rtype.kind src) == 20 then
        match val with
        | .nilIface => unsupported (.noEntry "extern/reflectlite: a nil value of one interface type handed on as a value of another")
        | _ => storeVar dst a val
      else storeVar dst a (.iface src val)
    else panicString ("reflectlite.Set: value of type " ++ (← Rtype.spelt src) ++ " is not assignable to type " ++ (← Rtype.spelt dst))
    pure (.tuple #[])) := rfl
theorem isNil85 (a p : Addr) (W : World) (ha : W.cell? a = some (.pointer (some p))) :
    (ReflectliteValue.method (ReflectliteValue.valueError "reflectlite.Value.IsNil" 0) ReflectliteValue.isNil #[.agg #[.pointer (some ⟨1, 85, none⟩), .pointer (some a), .int .u64 150]]).run Tryd.prog W = .ok (.bool false) W := by
  rw [rlm]
  simp only [Sem.run_bind, parts85, Result.andThen]
  simp [ReflectliteValue.isNil, loadVar, isAgg, underlying, Tryd.underlying85, ha, Result.andThen]
theorem elemV85 (a p : Addr) (W : World) (ha : W.cell? a = some (.pointer (some p))) :
    (ReflectliteValue.method (ReflectliteValue.valueError "reflectlite.Value.Elem" 0) ReflectliteValue.elem #[.agg #[.pointer (some ⟨1, 85, none⟩), .pointer (some a), .int .u64 150]]).run Tryd.prog W = .ok (.agg #[.pointer (some ⟨1, 39, none⟩), .pointer (some p), .int .u64 386]) W := by
  rw [rlm]
  simp only [Sem.run_bind, parts85, Result.andThen]
  simp [ReflectliteValue.elem, loadVar, isAgg, underlying, Tryd.underlying85, ha, Result.andThen, elemOf85, mk39]
theorem set39 (ta b : Addr) (k : Int) (old : Value) (W : World) (hb : W.cell? b = some (.int .i64 k)) (ht : W.cell? ta = some old) (hf : W.frozen? ta = false) :
    (ReflectliteValue.set #[.agg #[.pointer (some ⟨1, 39, none⟩), .pointer (some ta), .int .u64 386], .agg #[.pointer (some ⟨1, 39, none⟩), .pointer (some b), .int .u64 130]]).run Tryd.prog W = .ok (.tuple #[]) (W.setCell ta (.int .i64 k)) := by
  rw [rls]
  simp only [Sem.run_bind, parts39a, parts39, Result.andThen]
  simp [ReflectliteValue.flagAddr, loadVar, isAgg, underlying, Tryd.underlying39, hb, Result.andThen, direct39, storeVar, Value.cells, storeCells, Addr.add]
  rw [run_store Tryd.prog W ta _ _ (by rfl)]
  simp [ht, hf]
theorem isNil87 (a p : Addr) (W : World) (ha : W.cell? a = some (.pointer (some p))) :
    (ReflectliteValue.method (ReflectliteValue.valueError "reflectlite.Value.IsNil" 0) ReflectliteValue.isNil #[.agg #[.pointer (some ⟨1, 87, none⟩), .pointer (some a), .int .u64 150]]).run Tryd.prog W = .ok (.bool false) W := by
  rw [rlm]
  simp only [Sem.run_bind, parts87, Result.andThen]
  simp [ReflectliteValue.isNil, loadVar, isAgg, underlying, Tryd.underlying87, ha, Result.andThen]
theorem elemV87 (a p : Addr) (W : World) (ha : W.cell? a = some (.pointer (some p))) :
    (ReflectliteValue.method (ReflectliteValue.valueError "reflectlite.Value.Elem" 0) ReflectliteValue.elem #[.agg #[.pointer (some ⟨1, 87, none⟩), .pointer (some a), .int .u64 150]]).run Tryd.prog W = .ok (.agg #[.pointer (some ⟨1, 86, none⟩), .pointer (some p), .int .u64 406]) W := by
  rw [rlm]
  simp only [Sem.run_bind, parts87, Result.andThen]
  simp [ReflectliteValue.elem, loadVar, isAgg, underlying, Tryd.underlying87, ha, Result.andThen, elemOf87, mk86]
theorem set86 (ta b : Addr) (x : Addr) (old : Value) (W : World) (hb : W.cell? b = some (.pointer (some x))) (ht : W.cell? ta = some old) (hf : W.frozen? ta = false) :
    (ReflectliteValue.set #[.agg #[.pointer (some ⟨1, 86, none⟩), .pointer (some ta), .int .u64 406], .agg #[.pointer (some ⟨1, 86, none⟩), .pointer (some b), .int .u64 150]]).run Tryd.prog W = .ok (.tuple #[]) (W.setCell ta (.pointer (some x))) := by
  rw [rls]
  simp only [Sem.run_bind, parts86a, parts86, Result.andThen]
  simp [ReflectliteValue.flagAddr, loadVar, isAgg, underlying, Tryd.underlying86, hb, Result.andThen, direct86, storeVar, Value.cells, storeCells, Addr.add]
  rw [run_store Tryd.prog W ta _ _ (by rfl)]
  simp [ht, hf]
end Go.Proofs.YtfkkefhijhjaaaaDoor.Er
