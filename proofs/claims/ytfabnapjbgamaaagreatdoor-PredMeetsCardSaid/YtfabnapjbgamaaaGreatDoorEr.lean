import Derived.Test.YtfabnapjbgamaaaGreatDoorProg
import Derived.WalkKit
import Derived.LaidEql
import Derived.Stop.Asserts
import Derived.RowKitTokens
import Derived.Below
import Derived.Lib.Hide
import Derived.Deep.LoopGhost
import Derived.BigFrame
import Derived.Laws.IdiomRangeMap
import Derived.Deep.DeepCutAuto
import Derived.Test.YtfabnapjbgamaaaGreatDoorV
import Derived.Maps.AppendAt
/-! Closed facts on the model's entries for internal/reflectlite and on type assertions, at this program's types. -/
namespace Go.Proofs.YtfabnapjbgamaaaGreatDoor.Er
open Go.RowKit Go.Extern.Stop Go.Stop Go.Extern
set_option linter.unusedVariables false
theorem valueOf81 (t : Addr) (w : World) : (ReflectliteValue.unpack (.iface 81 (.pointer (some t)))).run Tryz.prog w = .ok (.agg #[.pointer (some ⟨5, 81, none⟩), .pointer (some ⟨w.heap.size, 0, none⟩), .int .u64 150]) (w.alloc (.cells #[.pointer (some t)] 81)) := by kernel_rfl
theorem type81 (a : Addr) (w : World) : (ReflectliteValue.methodAny (ReflectliteValue.valueError "reflectlite.Value.Type" 0) (fun t _ _ _ => ReflectliteType.toType t) #[.agg #[.pointer (some ⟨5, 81, none⟩), .pointer (some a), .int .u64 150]]).run Tryz.prog w = .ok (.iface 98 (.agg #[.pointer (some ⟨5, 81, none⟩)])) w := by kernel_rfl
theorem kind81 (w : World) : ((ReflectliteType.abiMethod fun t => (fun a : Nat => Value.int IntKind.u8 (a : Int)) <$> Rtype.kind t) #[.pointer (some ⟨5, 81, none⟩)]).run Tryz.prog w = .ok (.int .u8 22) w := by kernel_rfl
theorem kind32 (w : World) : ((ReflectliteType.abiMethod fun t => (fun a : Nat => Value.int IntKind.u8 (a : Int)) <$> Rtype.kind t) #[.pointer (some ⟨5, 32, none⟩)]).run Tryz.prog w = .ok (.int .u8 2) w := by kernel_rfl
theorem parts81 (a : Addr) (w : World) : (ReflectliteValue.parts (.agg #[.pointer (some ⟨5, 81, none⟩), .pointer (some a), .int .u64 150])).run Tryz.prog w = .ok (some (81, a, 150)) w := by kernel_rfl
theorem elem81 (w : World) : (ReflectliteType.method ReflectliteType.elem #[.agg #[.pointer (some ⟨5, 81, none⟩)]]).run Tryz.prog w = .ok (.iface 98 (.agg #[.pointer (some ⟨5, 32, none⟩)])) w := by kernel_rfl
theorem implements32 (w : World) : (ReflectliteType.relation "Implements" ReflectliteType.implements_ #[.agg #[.pointer (some ⟨5, 32, none⟩)], .iface 98 (.agg #[.pointer (some ⟨5, 27, none⟩)])]).run Tryz.prog w = .ok (.bool true) w := by kernel_rfl
theorem elemOf81 (w : World) : (Rtype.elem? 81).run Tryz.prog w = .ok (some 32) w := by kernel_rfl
theorem mk32 (p : Addr) (w : World) : (ReflectliteValue.mk 32 p ReflectliteValue.flagAddr).run Tryz.prog w = .ok (.agg #[.pointer (some ⟨5, 32, none⟩), .pointer (some p), .int .u64 386]) w := by kernel_rfl
theorem parts32a (a : Addr) (w : World) : (ReflectliteValue.parts (.agg #[.pointer (some ⟨5, 32, none⟩), .pointer (some a), .int .u64 386])).run Tryz.prog w = .ok (some (32, a, 386)) w := by kernel_rfl
theorem parts32 (a : Addr) (w : World) : (ReflectliteValue.parts (.agg #[.pointer (some ⟨5, 32, none⟩), .pointer (some a), .int .u64 130])).run Tryz.prog w = .ok (some (32, a, 130)) w := by kernel_rfl
theorem direct32 (w : World) : (Rtype.directlyAssignable 32 32).run Tryz.prog w = .ok true w := by kernel_rfl
theorem size32 (w : World) : (sizeOf 32).run Tryz.prog w = .ok 1 w := by kernel_rfl
theorem valueOf32 (k : Int) (w : World) : (ReflectliteValue.unpack (.iface 32 (.int .i64 k))).run Tryz.prog w = .ok (.agg #[.pointer (some ⟨5, 32, none⟩), .pointer (some ⟨w.heap.size, 0, none⟩), .int .u64 130]) (w.alloc (.cells #[.int .i64 k] 32)) := by kernel_rfl
theorem valueOf75 (t : Addr) (w : World) : (ReflectliteValue.unpack (.iface 75 (.pointer (some t)))).run Tryz.prog w = .ok (.agg #[.pointer (some ⟨5, 75, none⟩), .pointer (some ⟨w.heap.size, 0, none⟩), .int .u64 150]) (w.alloc (.cells #[.pointer (some t)] 75)) := by kernel_rfl
theorem type75 (a : Addr) (w : World) : (ReflectliteValue.methodAny (ReflectliteValue.valueError "reflectlite.Value.Type" 0) (fun t _ _ _ => ReflectliteType.toType t) #[.agg #[.pointer (some ⟨5, 75, none⟩), .pointer (some a), .int .u64 150]]).run Tryz.prog w = .ok (.iface 98 (.agg #[.pointer (some ⟨5, 75, none⟩)])) w := by kernel_rfl
theorem kind75 (w : World) : ((ReflectliteType.abiMethod fun t => (fun a : Nat => Value.int IntKind.u8 (a : Int)) <$> Rtype.kind t) #[.pointer (some ⟨5, 75, none⟩)]).run Tryz.prog w = .ok (.int .u8 22) w := by kernel_rfl
theorem kind73 (w : World) : ((ReflectliteType.abiMethod fun t => (fun a : Nat => Value.int IntKind.u8 (a : Int)) <$> Rtype.kind t) #[.pointer (some ⟨5, 73, none⟩)]).run Tryz.prog w = .ok (.int .u8 22) w := by kernel_rfl
theorem parts75 (a : Addr) (w : World) : (ReflectliteValue.parts (.agg #[.pointer (some ⟨5, 75, none⟩), .pointer (some a), .int .u64 150])).run Tryz.prog w = .ok (some (75, a, 150)) w := by kernel_rfl
theorem elem75 (w : World) : (ReflectliteType.method ReflectliteType.elem #[.agg #[.pointer (some ⟨5, 75, none⟩)]]).run Tryz.prog w = .ok (.iface 98 (.agg #[.pointer (some ⟨5, 73, none⟩)])) w := by kernel_rfl
theorem implements73 (w : World) : (ReflectliteType.relation "Implements" ReflectliteType.implements_ #[.agg #[.pointer (some ⟨5, 73, none⟩)], .iface 98 (.agg #[.pointer (some ⟨5, 27, none⟩)])]).run Tryz.prog w = .ok (.bool true) w := by kernel_rfl
theorem elemOf75 (w : World) : (Rtype.elem? 75).run Tryz.prog w = .ok (some 73) w := by kernel_rfl
theorem mk73 (p : Addr) (w : World) : (ReflectliteValue.mk 73 p ReflectliteValue.flagAddr).run Tryz.prog w = .ok (.agg #[.pointer (some ⟨5, 73, none⟩), .pointer (some p), .int .u64 406]) w := by kernel_rfl
theorem parts73a (a : Addr) (w : World) : (ReflectliteValue.parts (.agg #[.pointer (some ⟨5, 73, none⟩), .pointer (some a), .int .u64 406])).run Tryz.prog w = .ok (some (73, a, 406)) w := by kernel_rfl
theorem parts73 (a : Addr) (w : World) : (ReflectliteValue.parts (.agg #[.pointer (some ⟨5, 73, none⟩), .pointer (some a), .int .u64 150])).run Tryz.prog w = .ok (some (73, a, 150)) w := by kernel_rfl
theorem direct73 (w : World) : (Rtype.directlyAssignable 73 73).run Tryz.prog w = .ok true w := by kernel_rfl
theorem size73 (w : World) : (sizeOf 73).run Tryz.prog w = .ok 1 w := by kernel_rfl
theorem valueOf73 (a : Addr) (w : World) : (ReflectliteValue.unpack (.iface 73 (.pointer (some a)))).run Tryz.prog w = .ok (.agg #[.pointer (some ⟨5, 73, none⟩), .pointer (some ⟨w.heap.size, 0, none⟩), .int .u64 150]) (w.alloc (.cells #[.pointer (some a)] 73)) := by kernel_rfl
theorem methodKind (h : Value) (w : World) : (Go.method 351 98 (.agg #[h]) "Kind").run Tryz.prog w = .ok (129, h) w := by kernel_rfl
theorem methodElem (h : Value) (w : World) : (Go.method 351 98 (.agg #[h]) "Elem").run Tryz.prog w = .ok (139, .agg #[h]) w := by kernel_rfl
theorem methodImplements (h : Value) (w : World) : (Go.method 351 98 (.agg #[h]) "Implements").run Tryz.prog w = .ok (140, .agg #[h]) w := by kernel_rfl
theorem methodAssignableTo (h : Value) (w : World) : (Go.method 351 98 (.agg #[h]) "AssignableTo").run Tryz.prog w = .ok (137, .agg #[h]) w := by kernel_rfl
theorem methodComparable (h : Value) (w : World) : (Go.method 351 98 (.agg #[h]) "Comparable").run Tryz.prog w = .ok (138, .agg #[h]) w := by kernel_rfl
theorem typeOf32 (v : Value) (w : World) : (ReflectliteType.typeOf #[.iface 32 v]).run Tryz.prog w = .ok (.iface 98 (.agg #[.pointer (some ⟨5, 32, none⟩)])) w := by kernel_rfl
theorem comparable32 (w : World) : (ReflectliteType.method (fun t => do Rtype.noPackHeld "Comparable" t; (fun a => Value.bool a.comparable) <$> typeInfo t) #[.agg #[.pointer (some ⟨5, 32, none⟩)]]).run Tryz.prog w = .ok (.bool true) w := by kernel_rfl
theorem assignable32_32 (w : World) : (ReflectliteType.relation "AssignableTo" ReflectliteType.assignableTo #[.agg #[.pointer (some ⟨5, 32, none⟩)], .iface 98 (.agg #[.pointer (some ⟨5, 32, none⟩)])]).run Tryz.prog w = .ok (.bool true) w := by kernel_rfl
theorem assignable32_73 (w : World) : (ReflectliteType.relation "AssignableTo" ReflectliteType.assignableTo #[.agg #[.pointer (some ⟨5, 32, none⟩)], .iface 98 (.agg #[.pointer (some ⟨5, 73, none⟩)])]).run Tryz.prog w = .ok (.bool false) w := by kernel_rfl
theorem lacks32_124 (v : Value) (xT : TypeId) (w : World) : (Instr.typeAssert (.iface 32 v) xT 124 true).run Tryz.prog w = .ok (.tuple #[.nilIface, .bool false]) w := run_typeAssert_lacksB Tryz.underlying124 (by kernel_rfl) (by kernel_rfl) v xT w
theorem lacks32_100 (v : Value) (xT : TypeId) (w : World) : (Instr.typeAssert (.iface 32 v) xT 100 true).run Tryz.prog w = .ok (.tuple #[.nilIface, .bool false]) w := run_typeAssert_lacksB Tryz.underlying100 (by kernel_rfl) (by kernel_rfl) v xT w
theorem lacks32_103 (v : Value) (xT : TypeId) (w : World) : (Instr.typeAssert (.iface 32 v) xT 103 true).run Tryz.prog w = .ok (.tuple #[.nilIface, .bool false]) w := run_typeAssert_lacksB Tryz.underlying103 (by kernel_rfl) (by kernel_rfl) v xT w
theorem lacks32_105 (v : Value) (xT : TypeId) (w : World) : (Instr.typeAssert (.iface 32 v) xT 105 true).run Tryz.prog w = .ok (.tuple #[.nilIface, .bool false]) w := run_typeAssert_lacksB Tryz.underlying105 (by kernel_rfl) (by kernel_rfl) v xT w
theorem typeOf73 (v : Value) (w : World) : (ReflectliteType.typeOf #[.iface 73 v]).run Tryz.prog w = .ok (.iface 98 (.agg #[.pointer (some ⟨5, 73, none⟩)])) w := by kernel_rfl
theorem comparable73 (w : World) : (ReflectliteType.method (fun t => do Rtype.noPackHeld "Comparable" t; (fun a => Value.bool a.comparable) <$> typeInfo t) #[.agg #[.pointer (some ⟨5, 73, none⟩)]]).run Tryz.prog w = .ok (.bool true) w := by kernel_rfl
theorem assignable73_32 (w : World) : (ReflectliteType.relation "AssignableTo" ReflectliteType.assignableTo #[.agg #[.pointer (some ⟨5, 73, none⟩)], .iface 98 (.agg #[.pointer (some ⟨5, 32, none⟩)])]).run Tryz.prog w = .ok (.bool false) w := by kernel_rfl
theorem assignable73_73 (w : World) : (ReflectliteType.relation "AssignableTo" ReflectliteType.assignableTo #[.agg #[.pointer (some ⟨5, 73, none⟩)], .iface 98 (.agg #[.pointer (some ⟨5, 73, none⟩)])]).run Tryz.prog w = .ok (.bool true) w := by kernel_rfl
theorem lacks73_124 (v : Value) (xT : TypeId) (w : World) : (Instr.typeAssert (.iface 73 v) xT 124 true).run Tryz.prog w = .ok (.tuple #[.nilIface, .bool false]) w := run_typeAssert_lacksB Tryz.underlying124 (by kernel_rfl) (by kernel_rfl) v xT w
theorem lacks73_100 (v : Value) (xT : TypeId) (w : World) : (Instr.typeAssert (.iface 73 v) xT 100 true).run Tryz.prog w = .ok (.tuple #[.nilIface, .bool false]) w := run_typeAssert_lacksB Tryz.underlying100 (by kernel_rfl) (by kernel_rfl) v xT w
theorem has73_103 (v : Value) (xT : TypeId) (w : World) : (Instr.typeAssert (.iface 73 v) xT 103 true).run Tryz.prog w = .ok (.tuple #[.iface 73 v, .bool true]) w := run_typeAssert_hasB Tryz.underlying103 (by kernel_rfl) v xT w
theorem lacks73_105 (v : Value) (xT : TypeId) (w : World) : (Instr.typeAssert (.iface 73 v) xT 105 true).run Tryz.prog w = .ok (.tuple #[.nilIface, .bool false]) w := run_typeAssert_lacksB Tryz.underlying105 (by kernel_rfl) (by kernel_rfl) v xT w
theorem methodUnwrap (v : Value) (w : World) : (Go.method 351 73 v "Unwrap").run Tryz.prog w = .ok (134, v) w := by kernel_rfl
theorem rlm (z : Sem Value) (f : TypeId → Addr → Nat → Nat → Sem Value) (v : Value) : ReflectliteValue.method z f #[v] = (do match ← ReflectliteValue.parts v with | none => z | some (t, a, fl) => f t a fl (fl % 32)) := rfl
theorem rls (v x : Value) : ReflectliteValue.set #[v, x] = (do
    let (some (dst, a, fl), some (src, b, _)) := (← ReflectliteValue.parts v, ← ReflectliteValue.parts x)
      | unsupported (.noEntry "extern/(internal/reflectlite.Value).Set.zeroValue")
    if fl / ReflectliteValue.flagAddr % 2 == 0 then unsupported (.noEntry "extern/(internal/reflectlite.Value).Set.unaddressable")
    let val ← loadVar src b
    if ← Rtype.directlyAssignable dst src then storeVar dst a val
    else if ← Rtype.implements dst src then
      if (← Rtype.kind src) == 20 then
        match val with
        | .nilIface => unsupported (.noEntry "extern/reflectlite: a nil value of one interface type handed on as a value of another")
        | _ => storeVar dst a val
      else storeVar dst a (.iface src val)
    else panicString ("reflectlite.Set: value of type " ++ (← Rtype.spelt src) ++ " is not assignable to type " ++ (← Rtype.spelt dst))
    pure (.tuple #[])) := rfl
theorem isNil81 (a p : Addr) (W : World) (ha : W.cell? a = some (.pointer (some p))) :
    (ReflectliteValue.method (ReflectliteValue.valueError "reflectlite.Value.IsNil" 0) ReflectliteValue.isNil #[.agg #[.pointer (some ⟨5, 81, none⟩), .pointer (some a), .int .u64 150]]).run Tryz.prog W = .ok (.bool false) W := by
  rw [rlm]
  simp only [Sem.run_bind, parts81, Result.andThen]
  simp [ReflectliteValue.isNil, loadVar, isAgg, underlying, Tryz.underlying81, ha, Result.andThen]
theorem elemV81 (a p : Addr) (W : World) (ha : W.cell? a = some (.pointer (some p))) :
    (ReflectliteValue.method (ReflectliteValue.valueError "reflectlite.Value.Elem" 0) ReflectliteValue.elem #[.agg #[.pointer (some ⟨5, 81, none⟩), .pointer (some a), .int .u64 150]]).run Tryz.prog W = .ok (.agg #[.pointer (some ⟨5, 32, none⟩), .pointer (some p), .int .u64 386]) W := by
  rw [rlm]
  simp only [Sem.run_bind, parts81, Result.andThen]
  simp [ReflectliteValue.elem, loadVar, isAgg, underlying, Tryz.underlying81, ha, Result.andThen, elemOf81, mk32]
theorem set32 (ta b : Addr) (k : Int) (old : Value) (W : World) (hb : W.cell? b = some (.int .i64 k)) (ht : W.cell? ta = some old) (hf : W.frozen? ta = false) :
    (ReflectliteValue.set #[.agg #[.pointer (some ⟨5, 32, none⟩), .pointer (some ta), .int .u64 386], .agg #[.pointer (some ⟨5, 32, none⟩), .pointer (some b), .int .u64 130]]).run Tryz.prog W = .ok (.tuple #[]) (W.setCell ta (.int .i64 k)) := by
  rw [rls]
  simp only [Sem.run_bind, parts32a, parts32, Result.andThen]
  simp [ReflectliteValue.flagAddr, loadVar, isAgg, underlying, Tryz.underlying32, hb, Result.andThen, direct32, storeVar, Value.cells, storeCells, Addr.add]
  rw [run_store Tryz.prog W ta _ _ (by rfl)]
  simp [ht, hf]
theorem isNil75 (a p : Addr) (W : World) (ha : W.cell? a = some (.pointer (some p))) :
    (ReflectliteValue.method (ReflectliteValue.valueError "reflectlite.Value.IsNil" 0) ReflectliteValue.isNil #[.agg #[.pointer (some ⟨5, 75, none⟩), .pointer (some a), .int .u64 150]]).run Tryz.prog W = .ok (.bool false) W := by
  rw [rlm]
  simp only [Sem.run_bind, parts75, Result.andThen]
  simp [ReflectliteValue.isNil, loadVar, isAgg, underlying, Tryz.underlying75, ha, Result.andThen]
theorem elemV75 (a p : Addr) (W : World) (ha : W.cell? a = some (.pointer (some p))) :
    (ReflectliteValue.method (ReflectliteValue.valueError "reflectlite.Value.Elem" 0) ReflectliteValue.elem #[.agg #[.pointer (some ⟨5, 75, none⟩), .pointer (some a), .int .u64 150]]).run Tryz.prog W = .ok (.agg #[.pointer (some ⟨5, 73, none⟩), .pointer (some p), .int .u64 406]) W := by
  rw [rlm]
  simp only [Sem.run_bind, parts75, Result.andThen]
  simp [ReflectliteValue.elem, loadVar, isAgg, underlying, Tryz.underlying75, ha, Result.andThen, elemOf75, mk73]
theorem set73 (ta b : Addr) (x : Addr) (old : Value) (W : World) (hb : W.cell? b = some (.pointer (some x))) (ht : W.cell? ta = some old) (hf : W.frozen? ta = false) :
    (ReflectliteValue.set #[.agg #[.pointer (some ⟨5, 73, none⟩), .pointer (some ta), .int .u64 406], .agg #[.pointer (some ⟨5, 73, none⟩), .pointer (some b), .int .u64 150]]).run Tryz.prog W = .ok (.tuple #[]) (W.setCell ta (.pointer (some x))) := by
  rw [rls]
  simp only [Sem.run_bind, parts73a, parts73, Result.andThen]
  simp [ReflectliteValue.flagAddr, loadVar, isAgg, underlying, Tryz.underlying73, hb, Result.andThen, direct73, storeVar, Value.cells, storeCells, Addr.add]
  rw [run_store Tryz.prog W ta _ _ (by rfl)]
  simp [ht, hf]
end Go.Proofs.YtfabnapjbgamaaaGreatDoor.Er
/-! Errors as data; errors.as and errors.As at a concrete target. -/
namespace Go.Proofs.YtfabnapjbgamaaaGreatDoor.Er
open Go.RowKit Go.Extern.Stop Go.Stop Go.Extern
set_option linter.unusedVariables false
set_option linter.unusedSimpArgs false
inductive Err where
  | no (k : Int)
  | other (g : Nat)
  | fault (g : Nat) (op : ByteArray) (at_ : Int) (e : Err)
  | join (g ga : Nat) (a b : Err)
def Err.val : Err → Value
  | .no k => .iface 32 (.int .i64 k)
  | .other g => .iface 0 (.pointer (some ⟨g, 0, none⟩))
  | .fault g _ _ _ => .iface 73 (.pointer (some ⟨g, 0, none⟩))
  | .join g _ _ _ => .iface 0 (.pointer (some ⟨g, 0, none⟩))
def Err.ok (w : World) : Err → Prop
  | .no _ => True
  | .other g => False
  | .fault g op at_ e => w.heap[g]? = some (.cells #[.string op, .int .i64 at_, e.val] 77 (0, 0)) ∧ e.ok w
  | .join g ga a b => False
def Err.size : Err → Nat
  | .no _ => 1
  | .other _ => 1
  | .fault _ _ _ e => e.size + 1
  | .join _ _ a b => a.size + b.size + 1
def Err.errno : Err → Option Int
  | .no k => some k
  | .other _ => none
  | .fault _ _ _ e => e.errno
  | .join _ _ a b => a.errno.or b.errno
def Err.first : Err → Option Nat
  | .no _ => none
  | .other _ => none
  | .fault g _ _ _ => some g
  | .join _ _ a b => a.first.or b.first
theorem lt_of_get {w : World} {g : Nat} {o : Obj} (h : w.heap[g]? = some o) : g < w.heap.size := by
  rcases Nat.lt_or_ge g w.heap.size with h1 | h1
  · exact h1
  · rw [Array.getElem?_eq_none h1] at h
    cases h
/-- What keeps an error: its own blocks stay. -/
theorem Err.keep {w w' : World} (h : ∀ (g : Nat) (cs : Array Value) (t : TypeId), (t = 77) → w.heap[g]? = some (Obj.cells cs t (0, 0)) → w'.heap[g]? = some (Obj.cells cs t (0, 0))) : ∀ e : Err, e.ok w → e.ok w'
  | .no _, _ => trivial
  | .other g, h1 => h1
  | .fault g op at_ e, ⟨h1, h2⟩ => ⟨h g _ _ (by simp) h1, e.keep h h2⟩
  | .join g ga a b, h1 => h1
theorem Err.okBelow {w w' : World} (hb : Below w.heap.size w w') {e : Err} (h : e.ok w) : e.ok w' := e.keep (fun g cs t _ hg => (hb.block g (lt_of_get hg)).trans hg) h
theorem Err.isIface (e : Err) : ∃ ty v, e.val = .iface ty v := by cases e <;> exact ⟨_, _, rfl⟩
theorem cell_of {w : World} {g : Nat} {cs : Array Value} {t : TypeId} {f : Nat × Nat} (h : w.heap[g]? = some (.cells cs t f)) (j : Nat) : w.cell? ⟨g, j, none⟩ = cs[j]? := by simp [World.cell?, h]
theorem frozen_of {w : World} {g : Nat} {cs : Array Value} {t : TypeId} (h : w.heap[g]? = some (.cells cs t (0, 0))) (j : Nat) : w.frozen? ⟨g, j, none⟩ = false := by simp [World.frozen?, h]
theorem get_alloc {w : World} {g : Nat} {o : Obj} (h : w.heap[g]? = some o) (o' : Obj) : (w.alloc o').heap[g]? = some o := (Below.heap_alloc w o' g (lt_of_get h)).trans h
theorem get_new (w : World) (o : Obj) : (w.alloc o).heap[w.heap.size]? = some o := heap_alloc_new w o
theorem unwrap_any (g : Nat) (op : ByteArray) (at_ : Int) (v : Value) (w : World) (h : w.heap[g]? = some (.cells #[.string op, .int .i64 at_, v] 77 (0, 0))) :
    Calls Tryz.prog 134 #[.pointer (some ⟨g, 0, none⟩)] w fun e w' => e = .returned v ∧ w = w' := by
  have h2 : w.cell? ⟨g, 2, none⟩ = some v := (cell_of h 2).trans rfl
  go_enter Tryz.func134, Tryz.ntmps134
  go_wp2
  go_ret
  exact ⟨rfl, rfl⟩
def Aserrno (o : Option Int) (tb : Nat) (w : World) (ev : Ending) (w' : World) : Prop :=
  ev = .returned (.bool o.isSome) ∧ match o with
  | some k => ∃ w1, Below w.heap.size w w1 ∧ w' = w1.setCell ⟨tb, 0, none⟩ (.int .i64 k)
  | none => Below w.heap.size w w'
set_option maxHeartbeats 8000000 in
set_option maxRecDepth 100000 in
theorem as_errno : ∀ (n : Nat) (e : Err), e.size ≤ n → ∀ (w : World) (tb : Nat) (old : Value) (va : Addr), e.ok w → w.heap[tb]? = some (.cells #[old] 32 (0, 0)) → w.cell? va = some (.pointer (some ⟨tb, 0, none⟩)) →
    Calls Tryz.prog 56 #[e.val, .iface 81 (.pointer (some ⟨tb, 0, none⟩)), .agg #[.pointer (some ⟨5, 81, none⟩), .pointer (some va), .int .u64 150], .iface 98 (.agg #[.pointer (some ⟨5, 32, none⟩)])] w fun ev w' => Aserrno (e.errno) tb w ev w' := by
  intro n
  induction n with
  | zero => intro e he; cases e <;> simp [Err.size] at he
  | succ n ih =>
  intro e he w tb old va hok htb hva
  have h35 := @run_callFunc_extern Tryz.prog 35 _ (ReflectliteType.typeOf) Tryz.func35 (by kernel_rfl) (by kernel_rfl) (by kernel_rfl) (by kernel_rfl)
  have h137 := @run_callFunc_extern Tryz.prog 137 _ (ReflectliteType.relation "AssignableTo" ReflectliteType.assignableTo) Tryz.func137 (by kernel_rfl) (by kernel_rfl) (by kernel_rfl) (by kernel_rfl)
  have h53 := @run_callFunc_extern Tryz.prog 53 _ (fun args => ReflectliteValue.unpack (args.getD 0 (.tuple #[]))) Tryz.func53 (by kernel_rfl) (by kernel_rfl) (by kernel_rfl) (by kernel_rfl)
  have h65 := @run_callFunc_extern Tryz.prog 65 _ (ReflectliteValue.method (ReflectliteValue.valueError "reflectlite.Value.Elem" 0) ReflectliteValue.elem) Tryz.func65 (by kernel_rfl) (by kernel_rfl) (by kernel_rfl) (by kernel_rfl)
  have h66 := @run_callFunc_extern Tryz.prog 66 _ (ReflectliteValue.set) Tryz.func66 (by kernel_rfl) (by kernel_rfl) (by kernel_rfl) (by kernel_rfl)
  have mA := methodAssignableTo
  have HOK := Lib.hid hok
  have HTB := Lib.hid htb
  have HVA := Lib.hid hva
  have HIH := Lib.hid ih
  have HE : Hid (e.size ≤ n + 1) := Lib.hid he
  have hsz0 : va.block < w.heap.size := by
    rcases Nat.lt_or_ge va.block w.heap.size with h | h
    · exact h
    · simp [World.cell?, Array.getElem?_eq_none h] at hva
  clear hok htb hva ih he
  go_enter Tryz.func56, Tryz.ntmps56
  go_wp2
  obtain ⟨W, hW⟩ : ∃ W, W = w.alloc (.cells #[.pointer (some ⟨5, 81, none⟩), .pointer (some va), .int .u64 150] 111) := ⟨_, rfl⟩
  rw [← hW]
  have hb : Hid (W.heap[w.heap.size]? = some (.cells #[.pointer (some ⟨5, 81, none⟩), .pointer (some va), .int .u64 150] 111 (0, 0))) := Lib.hid (by rw [hW]; exact get_new w _)
  have hbel : Hid (Below w.heap.size w W) := Lib.hid (by rw [hW]; exact (Below.refl _ _).alloc (Nat.le_refl _) _)
  clear hW
  generalize hg0 : w.heap.size = g0 at hb ⊢
  have hok' : Hid (e.ok W) := Lib.hid (Err.okBelow hbel.out HOK.out)
  have htb' : Hid (W.heap[tb]? = some (.cells #[old] 32 (0, 0))) := Lib.hid ((hbel.out.block _ (lt_of_get HTB.out)).trans HTB.out)
  have hva' : Hid (W.cell? va = some (.pointer (some ⟨tb, 0, none⟩))) := Lib.hid ((hbel.out.cell hsz0).trans HVA.out)
  have hg : Hid (w.heap.size = g0) := Lib.hid hg0
  clear hg0 HOK HTB HVA
  go_wp2
  go_loopg [0] (n + 1) (fun g s0 wr => wr = W ∧ ∃ cur : Err, s0 = cur.val ∧ Hid (cur.size ≤ g ∧ g ≤ n + 1 ∧ cur.ok W ∧ cur.errno = e.errno))
  case atStart => exact ⟨rfl, e, rfl, HE, Nat.le_refl _, hok', rfl⟩
  case round =>
    obtain ⟨rfl, cur, rfl, HC⟩ := hrel
    have c0 : wr.cell? ⟨g0, 0, none⟩ = some (.pointer (some ⟨5, 81, none⟩)) := (cell_of hb.out 0).trans rfl
    have c1 : wr.cell? ⟨g0, 1, none⟩ = some (.pointer (some va)) := (cell_of hb.out 1).trans rfl
    have c2 : wr.cell? ⟨g0, 2, none⟩ = some (.int .u64 150) := (cell_of hb.out 2).trans rfl
    cases cur with
    | no k =>
      have tO := typeOf32
      have a1 := assignable32_32
      simp only [Err.val]
      have vO := valueOf32
      have el := elemV81 va ⟨tb, 0, none⟩ wr hva'.out
      have st := set32 ⟨tb, 0, none⟩ ⟨wr.heap.size, 0, none⟩ k old (wr.alloc (.cells #[.int .i64 k] 32)) ((cell_of (get_new wr _) 0).trans rfl) ((cell_of (get_alloc htb'.out _) 0).trans rfl) (frozen_of (get_alloc htb'.out _) 0)
      go_wp2
      go_ret
      rw [← HC.out.2.2.2]
      exact ⟨rfl, _, hbel.out.alloc hbel.out.size _, rfl⟩
    | other g => exact absurd HC.out.2.2.1 (by simp [Err.ok])
    | fault g op at_ e1 =>
      have tO := typeOf73
      have a1 := assignable73_32
      simp only [Err.val]
      have l1 := lacks73_124
      have l2 := has73_103
      have mU := methodUnwrap
      obtain ⟨ty, vv, hv⟩ := e1.isIface
      have hF : Hid (wr.heap[g]? = some (.cells #[.string op, .int .i64 at_, .iface ty vv] 77 (0, 0))) := Lib.hid (by rw [← hv]; exact HC.out.2.2.1.1)
      have HV := Lib.hid hv
      clear hv
      obtain ⟨k1, hk1⟩ : ∃ k1, gk = k1 + 1 := ⟨gk - 1, by have := HC.out.1; simp only [Err.size] at this; omega⟩
      have HK := Lib.hid hk1
      clear hk1
      go_wp2_with (go_at_call 134; refine (unwrap_any g op at_ (.iface ty vv) _ hF.out).mono ?_; rintro ev w2 ⟨rfl, rfl⟩)
      go_roundg k1
      case rel => exact ⟨rfl, e1, HV.out.symm, by have h1_ := HC.out.1; have h2_ := HK.out; simp only [Err.size] at h1_; omega, by have := HC.out.2.1; have := HK.out; omega, HC.out.2.2.1.2, HC.out.2.2.2⟩
      case measure => have := HK.out; omega
    | join g ga a b => exact absurd HC.out.2.2.1 (by simp [Err.ok])
def Asfault (o : Option Nat) (tb : Nat) (w : World) (ev : Ending) (w' : World) : Prop :=
  ev = .returned (.bool o.isSome) ∧ match o with
  | some k => ∃ w1, Below w.heap.size w w1 ∧ w' = w1.setCell ⟨tb, 0, none⟩ (.pointer (some ⟨k, 0, none⟩))
  | none => Below w.heap.size w w'
set_option maxHeartbeats 8000000 in
set_option maxRecDepth 100000 in
theorem as_fault : ∀ (n : Nat) (e : Err), e.size ≤ n → ∀ (w : World) (tb : Nat) (old : Value) (va : Addr), e.ok w → w.heap[tb]? = some (.cells #[old] 73 (0, 0)) → w.cell? va = some (.pointer (some ⟨tb, 0, none⟩)) →
    Calls Tryz.prog 56 #[e.val, .iface 75 (.pointer (some ⟨tb, 0, none⟩)), .agg #[.pointer (some ⟨5, 75, none⟩), .pointer (some va), .int .u64 150], .iface 98 (.agg #[.pointer (some ⟨5, 73, none⟩)])] w fun ev w' => Asfault (e.first) tb w ev w' := by
  intro n
  induction n with
  | zero => intro e he; cases e <;> simp [Err.size] at he
  | succ n ih =>
  intro e he w tb old va hok htb hva
  have h35 := @run_callFunc_extern Tryz.prog 35 _ (ReflectliteType.typeOf) Tryz.func35 (by kernel_rfl) (by kernel_rfl) (by kernel_rfl) (by kernel_rfl)
  have h137 := @run_callFunc_extern Tryz.prog 137 _ (ReflectliteType.relation "AssignableTo" ReflectliteType.assignableTo) Tryz.func137 (by kernel_rfl) (by kernel_rfl) (by kernel_rfl) (by kernel_rfl)
  have h53 := @run_callFunc_extern Tryz.prog 53 _ (fun args => ReflectliteValue.unpack (args.getD 0 (.tuple #[]))) Tryz.func53 (by kernel_rfl) (by kernel_rfl) (by kernel_rfl) (by kernel_rfl)
  have h65 := @run_callFunc_extern Tryz.prog 65 _ (ReflectliteValue.method (ReflectliteValue.valueError "reflectlite.Value.Elem" 0) ReflectliteValue.elem) Tryz.func65 (by kernel_rfl) (by kernel_rfl) (by kernel_rfl) (by kernel_rfl)
  have h66 := @run_callFunc_extern Tryz.prog 66 _ (ReflectliteValue.set) Tryz.func66 (by kernel_rfl) (by kernel_rfl) (by kernel_rfl) (by kernel_rfl)
  have mA := methodAssignableTo
  have HOK := Lib.hid hok
  have HTB := Lib.hid htb
  have HVA := Lib.hid hva
  have HIH := Lib.hid ih
  have HE : Hid (e.size ≤ n + 1) := Lib.hid he
  have hsz0 : va.block < w.heap.size := by
    rcases Nat.lt_or_ge va.block w.heap.size with h | h
    · exact h
    · simp [World.cell?, Array.getElem?_eq_none h] at hva
  clear hok htb hva ih he
  go_enter Tryz.func56, Tryz.ntmps56
  go_wp2
  obtain ⟨W, hW⟩ : ∃ W, W = w.alloc (.cells #[.pointer (some ⟨5, 75, none⟩), .pointer (some va), .int .u64 150] 111) := ⟨_, rfl⟩
  rw [← hW]
  have hb : Hid (W.heap[w.heap.size]? = some (.cells #[.pointer (some ⟨5, 75, none⟩), .pointer (some va), .int .u64 150] 111 (0, 0))) := Lib.hid (by rw [hW]; exact get_new w _)
  have hbel : Hid (Below w.heap.size w W) := Lib.hid (by rw [hW]; exact (Below.refl _ _).alloc (Nat.le_refl _) _)
  clear hW
  generalize hg0 : w.heap.size = g0 at hb ⊢
  have hok' : Hid (e.ok W) := Lib.hid (Err.okBelow hbel.out HOK.out)
  have htb' : Hid (W.heap[tb]? = some (.cells #[old] 73 (0, 0))) := Lib.hid ((hbel.out.block _ (lt_of_get HTB.out)).trans HTB.out)
  have hva' : Hid (W.cell? va = some (.pointer (some ⟨tb, 0, none⟩))) := Lib.hid ((hbel.out.cell hsz0).trans HVA.out)
  have hg : Hid (w.heap.size = g0) := Lib.hid hg0
  clear hg0 HOK HTB HVA
  go_wp2
  go_loopg [0] (n + 1) (fun g s0 wr => wr = W ∧ ∃ cur : Err, s0 = cur.val ∧ Hid (cur.size ≤ g ∧ g ≤ n + 1 ∧ cur.ok W ∧ cur.first = e.first))
  case atStart => exact ⟨rfl, e, rfl, HE, Nat.le_refl _, hok', rfl⟩
  case round =>
    obtain ⟨rfl, cur, rfl, HC⟩ := hrel
    have c0 : wr.cell? ⟨g0, 0, none⟩ = some (.pointer (some ⟨5, 75, none⟩)) := (cell_of hb.out 0).trans rfl
    have c1 : wr.cell? ⟨g0, 1, none⟩ = some (.pointer (some va)) := (cell_of hb.out 1).trans rfl
    have c2 : wr.cell? ⟨g0, 2, none⟩ = some (.int .u64 150) := (cell_of hb.out 2).trans rfl
    cases cur with
    | no k =>
      have tO := typeOf32
      have a1 := assignable32_73
      simp only [Err.val]
      have l1 := lacks32_124
      have l2 := lacks32_103
      have l3 := lacks32_105
      go_wp2
      go_ret
      rw [← HC.out.2.2.2]
      exact ⟨rfl, hbel.out⟩
    | other g => exact absurd HC.out.2.2.1 (by simp [Err.ok])
    | fault g op at_ e1 =>
      have tO := typeOf73
      have a1 := assignable73_73
      simp only [Err.val]
      have vO := valueOf73
      have el := elemV75 va ⟨tb, 0, none⟩ wr hva'.out
      have st := set73 ⟨tb, 0, none⟩ ⟨wr.heap.size, 0, none⟩ ⟨g, 0, none⟩ old (wr.alloc (.cells #[.pointer (some ⟨g, 0, none⟩)] 73)) ((cell_of (get_new wr _) 0).trans rfl) ((cell_of (get_alloc htb'.out _) 0).trans rfl) (frozen_of (get_alloc htb'.out _) 0)
      go_wp2
      go_ret
      rw [← HC.out.2.2.2]
      exact ⟨rfl, _, hbel.out.alloc hbel.out.size _, rfl⟩
    | join g ga a b => exact absurd HC.out.2.2.1 (by simp [Err.ok])
end Go.Proofs.YtfabnapjbgamaaaGreatDoor.Er
/-! errors.As, fault.New, Kind, Place: what they give of an error. -/
namespace Go.Proofs.YtfabnapjbgamaaaGreatDoor.Er
open Go.RowKit Go.Extern.Stop Go.Stop Go.Extern
set_option linter.unusedVariables false
set_option linter.unusedSimpArgs false
/-- What the law's row lists: the variable errors.errorType. -/
def Typ (w : World) : Prop := w.cell? ⟨0, 0, none⟩ = some (.iface 98 (.agg #[.pointer (some ⟨5, 27, none⟩)]))
theorem Typ.lt {w : World} (h : Typ w) : 0 < w.heap.size := by
  rcases Nat.lt_or_ge 0 w.heap.size with h1 | h1
  · exact h1
  · simp [Typ, World.cell?, Array.getElem?_eq_none h1] at h
theorem Typ.below {w w' : World} (hb : Below w.heap.size w w') (h : Typ w) : Typ w' := (hb.cell (p := ⟨0, 0, none⟩) h.lt).trans h
theorem As_nil_errno (t : Value) (w : World) : Calls Tryz.prog 37 #[.nilIface, t] w fun ev w' => ev = .returned (.bool false) ∧ w = w' := by
  go_enter Tryz.func37, Tryz.ntmps37
  go_wp2
  go_ret
  exact ⟨rfl, rfl⟩
theorem Aserrno.of {o} {tb : Nat} {w W : World} {ev : Ending} {w' : World} (hb : Below w.heap.size w W) (h : Aserrno o tb W ev w') : Aserrno o tb w ev w' := by
  unfold Aserrno at h ⊢
  cases o with
  | none => exact ⟨h.1, hb.trans (h.2.mono hb.size)⟩
  | some k => obtain ⟨h1, w1, h2, h3⟩ := h; exact ⟨h1, w1, hb.trans (h2.mono hb.size), h3⟩
set_option maxHeartbeats 8000000 in
set_option maxRecDepth 100000 in
theorem As_errno (e : Err) (w : World) (tb : Nat) (old : Value) (ht : Typ w) (hok : e.ok w) (htb : w.heap[tb]? = some (.cells #[old] 32 (0, 0))) :
    Calls Tryz.prog 37 #[e.val, .iface 81 (.pointer (some ⟨tb, 0, none⟩))] w fun ev w' => Aserrno (e.errno) tb w ev w' := by
  have h53 := @run_callFunc_extern Tryz.prog 53 _ (fun args => ReflectliteValue.unpack (args.getD 0 (.tuple #[]))) Tryz.func53 (by kernel_rfl) (by kernel_rfl) (by kernel_rfl) (by kernel_rfl)
  have h54 := @run_callFunc_extern Tryz.prog 54 _ (ReflectliteValue.methodAny (ReflectliteValue.valueError "reflectlite.Value.Type" 0) (fun t _ _ _ => ReflectliteType.toType t)) Tryz.func54 (by kernel_rfl) (by kernel_rfl) (by kernel_rfl) (by kernel_rfl)
  have h55 := @run_callFunc_extern Tryz.prog 55 _ (ReflectliteValue.method (ReflectliteValue.valueError "reflectlite.Value.IsNil" 0) ReflectliteValue.isNil) Tryz.func55 (by kernel_rfl) (by kernel_rfl) (by kernel_rfl) (by kernel_rfl)
  have h129 := @run_callFunc_extern Tryz.prog 129 _ (ReflectliteType.abiMethod fun t => do pure (.int .u8 (← Rtype.kind t))) Tryz.func129 (by kernel_rfl) (by kernel_rfl) (by kernel_rfl) (by kernel_rfl)
  have h139 := @run_callFunc_extern Tryz.prog 139 _ (ReflectliteType.method ReflectliteType.elem) Tryz.func139 (by kernel_rfl) (by kernel_rfl) (by kernel_rfl) (by kernel_rfl)
  have h140 := @run_callFunc_extern Tryz.prog 140 _ (ReflectliteType.relation "Implements" ReflectliteType.implements_) Tryz.func140 (by kernel_rfl) (by kernel_rfl) (by kernel_rfl) (by kernel_rfl)
  have f1 := valueOf81
  have f2 := type81
  have mK := methodKind
  have mE := methodElem
  have mI := methodImplements
  have k1 := kind81
  have k2 := kind32
  have e1 := elem81
  have i1 := implements32
  have HOK := Lib.hid hok
  have HTB := Lib.hid htb
  have HT := Lib.hid ht
  obtain ⟨ty, vv, hv⟩ := e.isIface
  have HV := Lib.hid hv
  rw [hv]
  clear hok htb hv ht
  go_enter Tryz.func37, Tryz.ntmps37
  go_upto_region 6 with (fail)
  obtain ⟨g0, hg0⟩ : ∃ g0, g0 = w.heap.size := ⟨_, rfl⟩
  have HG := Lib.hid hg0
  obtain ⟨W, hW⟩ : ∃ W, W = (w.alloc (.cells #[.pointer (some ⟨tb, 0, none⟩)] 81)).alloc (.cells #[.pointer (some ⟨5, 81, none⟩), .pointer (some ⟨w.heap.size, 0, none⟩), .int .u64 150] 111) := ⟨_, rfl⟩
  rw [← hW]
  have h0 : Hid (W.heap[g0]? = some (.cells #[.pointer (some ⟨tb, 0, none⟩)] 81 (0, 0))) := Lib.hid (by rw [hW, hg0]; exact get_alloc (get_new w _) _)
  have h1 : Hid (W.heap[g0 + 1]? = some (.cells #[.pointer (some ⟨5, 81, none⟩), .pointer (some ⟨g0, 0, none⟩), .int .u64 150] 111 (0, 0))) := Lib.hid (by
    have h_ := get_new (w.alloc (.cells #[.pointer (some ⟨tb, 0, none⟩)] 81)) (.cells #[.pointer (some ⟨5, 81, none⟩), .pointer (some ⟨w.heap.size, 0, none⟩), .int .u64 150] 111)
    rw [hW, hg0]
    rw [show (w.alloc (.cells #[.pointer (some ⟨tb, 0, none⟩)] 81)).heap.size = w.heap.size + 1 from by simp] at h_
    exact h_)
  have hbel : Hid (Below w.heap.size w W) := Lib.hid (by rw [hW]; exact ((Below.refl _ _).alloc (Nat.le_refl _) _).alloc (by simp) _)
  clear hW
  rw [← hg0]
  clear hg0
  have c0 : W.cell? ⟨g0 + 1, 0, none⟩ = some (.pointer (some ⟨5, 81, none⟩)) := (cell_of h1.out 0).trans rfl
  have c1 : W.cell? ⟨g0 + 1, 1, none⟩ = some (.pointer (some ⟨g0, 0, none⟩)) := (cell_of h1.out 1).trans rfl
  have c2 : W.cell? ⟨g0 + 1, 2, none⟩ = some (.int .u64 150) := (cell_of h1.out 2).trans rfl
  have n8 := isNil81 ⟨g0, 0, none⟩ ⟨tb, 0, none⟩ W ((cell_of h0.out 0).trans rfl)
  have hT : W.cell? ⟨0, 0, none⟩ = some (.iface 98 (.agg #[.pointer (some ⟨5, 27, none⟩)])) := Typ.below hbel.out HT.out
  go_wp2_with (go_at_call 56; rw [← HV.out]; refine (as_errno _ e (Nat.le_refl _) _ tb old ⟨g0, 0, none⟩ (Err.okBelow hbel.out HOK.out) ((hbel.out.block _ (lt_of_get HTB.out)).trans HTB.out) ((cell_of h0.out 0).trans rfl)).mono ?_; rintro ev w2 ⟨rfl, hp⟩)
  go_ret
  exact Aserrno.of hbel.out ⟨rfl, hp⟩
theorem As_nil_fault (t : Value) (w : World) : Calls Tryz.prog 37 #[.nilIface, t] w fun ev w' => ev = .returned (.bool false) ∧ w = w' := by
  go_enter Tryz.func37, Tryz.ntmps37
  go_wp2
  go_ret
  exact ⟨rfl, rfl⟩
theorem Asfault.of {o} {tb : Nat} {w W : World} {ev : Ending} {w' : World} (hb : Below w.heap.size w W) (h : Asfault o tb W ev w') : Asfault o tb w ev w' := by
  unfold Asfault at h ⊢
  cases o with
  | none => exact ⟨h.1, hb.trans (h.2.mono hb.size)⟩
  | some k => obtain ⟨h1, w1, h2, h3⟩ := h; exact ⟨h1, w1, hb.trans (h2.mono hb.size), h3⟩
set_option maxHeartbeats 8000000 in
set_option maxRecDepth 100000 in
theorem As_fault (e : Err) (w : World) (tb : Nat) (old : Value) (ht : Typ w) (hok : e.ok w) (htb : w.heap[tb]? = some (.cells #[old] 73 (0, 0))) :
    Calls Tryz.prog 37 #[e.val, .iface 75 (.pointer (some ⟨tb, 0, none⟩))] w fun ev w' => Asfault (e.first) tb w ev w' := by
  have h53 := @run_callFunc_extern Tryz.prog 53 _ (fun args => ReflectliteValue.unpack (args.getD 0 (.tuple #[]))) Tryz.func53 (by kernel_rfl) (by kernel_rfl) (by kernel_rfl) (by kernel_rfl)
  have h54 := @run_callFunc_extern Tryz.prog 54 _ (ReflectliteValue.methodAny (ReflectliteValue.valueError "reflectlite.Value.Type" 0) (fun t _ _ _ => ReflectliteType.toType t)) Tryz.func54 (by kernel_rfl) (by kernel_rfl) (by kernel_rfl) (by kernel_rfl)
  have h55 := @run_callFunc_extern Tryz.prog 55 _ (ReflectliteValue.method (ReflectliteValue.valueError "reflectlite.Value.IsNil" 0) ReflectliteValue.isNil) Tryz.func55 (by kernel_rfl) (by kernel_rfl) (by kernel_rfl) (by kernel_rfl)
  have h129 := @run_callFunc_extern Tryz.prog 129 _ (ReflectliteType.abiMethod fun t => do pure (.int .u8 (← Rtype.kind t))) Tryz.func129 (by kernel_rfl) (by kernel_rfl) (by kernel_rfl) (by kernel_rfl)
  have h139 := @run_callFunc_extern Tryz.prog 139 _ (ReflectliteType.method ReflectliteType.elem) Tryz.func139 (by kernel_rfl) (by kernel_rfl) (by kernel_rfl) (by kernel_rfl)
  have h140 := @run_callFunc_extern Tryz.prog 140 _ (ReflectliteType.relation "Implements" ReflectliteType.implements_) Tryz.func140 (by kernel_rfl) (by kernel_rfl) (by kernel_rfl) (by kernel_rfl)
  have f1 := valueOf75
  have f2 := type75
  have mK := methodKind
  have mE := methodElem
  have mI := methodImplements
  have k1 := kind75
  have k2 := kind73
  have e1 := elem75
  have i1 := implements73
  have HOK := Lib.hid hok
  have HTB := Lib.hid htb
  have HT := Lib.hid ht
  obtain ⟨ty, vv, hv⟩ := e.isIface
  have HV := Lib.hid hv
  rw [hv]
  clear hok htb hv ht
  go_enter Tryz.func37, Tryz.ntmps37
  go_upto_region 6 with (fail)
  obtain ⟨g0, hg0⟩ : ∃ g0, g0 = w.heap.size := ⟨_, rfl⟩
  have HG := Lib.hid hg0
  obtain ⟨W, hW⟩ : ∃ W, W = (w.alloc (.cells #[.pointer (some ⟨tb, 0, none⟩)] 75)).alloc (.cells #[.pointer (some ⟨5, 75, none⟩), .pointer (some ⟨w.heap.size, 0, none⟩), .int .u64 150] 111) := ⟨_, rfl⟩
  rw [← hW]
  have h0 : Hid (W.heap[g0]? = some (.cells #[.pointer (some ⟨tb, 0, none⟩)] 75 (0, 0))) := Lib.hid (by rw [hW, hg0]; exact get_alloc (get_new w _) _)
  have h1 : Hid (W.heap[g0 + 1]? = some (.cells #[.pointer (some ⟨5, 75, none⟩), .pointer (some ⟨g0, 0, none⟩), .int .u64 150] 111 (0, 0))) := Lib.hid (by
    have h_ := get_new (w.alloc (.cells #[.pointer (some ⟨tb, 0, none⟩)] 75)) (.cells #[.pointer (some ⟨5, 75, none⟩), .pointer (some ⟨w.heap.size, 0, none⟩), .int .u64 150] 111)
    rw [hW, hg0]
    rw [show (w.alloc (.cells #[.pointer (some ⟨tb, 0, none⟩)] 75)).heap.size = w.heap.size + 1 from by simp] at h_
    exact h_)
  have hbel : Hid (Below w.heap.size w W) := Lib.hid (by rw [hW]; exact ((Below.refl _ _).alloc (Nat.le_refl _) _).alloc (by simp) _)
  clear hW
  rw [← hg0]
  clear hg0
  have c0 : W.cell? ⟨g0 + 1, 0, none⟩ = some (.pointer (some ⟨5, 75, none⟩)) := (cell_of h1.out 0).trans rfl
  have c1 : W.cell? ⟨g0 + 1, 1, none⟩ = some (.pointer (some ⟨g0, 0, none⟩)) := (cell_of h1.out 1).trans rfl
  have c2 : W.cell? ⟨g0 + 1, 2, none⟩ = some (.int .u64 150) := (cell_of h1.out 2).trans rfl
  have n8 := isNil75 ⟨g0, 0, none⟩ ⟨tb, 0, none⟩ W ((cell_of h0.out 0).trans rfl)
  have hT : W.cell? ⟨0, 0, none⟩ = some (.iface 98 (.agg #[.pointer (some ⟨5, 27, none⟩)])) := Typ.below hbel.out HT.out
  go_wp2_with (go_at_call 56; rw [← HV.out]; refine (as_fault _ e (Nat.le_refl _) _ tb old ⟨g0, 0, none⟩ (Err.okBelow hbel.out HOK.out) ((hbel.out.block _ (lt_of_get HTB.out)).trans HTB.out) ((cell_of h0.out 0).trans rfl)).mono ?_; rintro ev w2 ⟨rfl, hp⟩)
  go_ret
  exact Asfault.of hbel.out ⟨rfl, hp⟩
end Go.Proofs.YtfabnapjbgamaaaGreatDoor.Er
/-! errors.Is of an error: is one of the chain the target? -/
namespace Go.Proofs.YtfabnapjbgamaaaGreatDoor.Er
open Go.RowKit Go.Extern.Stop Go.Stop Go.Extern
set_option linter.unusedVariables false
set_option linter.unusedSimpArgs false
def Err.same : Err → Err → Bool
  | .no k, .no j => decide (k = j)
  | .other g, .other h => decide (g = h)
  | .fault g _ _ _, .fault h _ _ _ => decide (g = h)
  | .join g _ _ _, .join h _ _ _ => decide (g = h)
  | _, _ => false
def Err.is : Err → Err → Bool
  | .no k, t => (Err.no k).same t
  | .other g, t => (Err.other g).same t
  | .fault g op at_ e, t => (Err.fault g op at_ e).same t || e.is t
  | .join g ga a b, t => (Err.join g ga a b).same t || (a.is t || b.is t)
theorem cmpinfo73 : ∃ i j, Tryz.prog.info? 73 = some i ∧ i.comparable = true ∧ Tryz.prog.info? 77 = some j ∧ j.size ≠ 0 := by
  have h1 : (Tryz.prog.info? 73).map (fun i => i.comparable) = some true := by kernel_rfl
  have h2 : (Tryz.prog.info? 77).map (fun i => i.size == 0) = some false := by kernel_rfl
  obtain ⟨i, hi, hi2⟩ := Option.map_eq_some_iff.1 h1
  obtain ⟨j, hj, hj2⟩ := Option.map_eq_some_iff.1 h2
  exact ⟨i, j, hi, hi2, hj, by simpa using hj2⟩
theorem eql_int (k j : Int) (w : World) : (binOp .eql 27 (.iface 32 (.int .i64 k)) (.iface 32 (.int .i64 j))).run Tryz.prog w = .ok (.bool (decide (k = j))) w := by
  have h1 : (Tryz.prog.info? 32).map (fun i => i.comparable) = some true := by kernel_rfl
  obtain ⟨i, hi, hc⟩ := Option.map_eq_some_iff.1 h1
  have h : ∀ d : Nat, (Op.equalIn (d + 2) 27 (.iface 32 (.int .i64 k)) (.iface 32 (.int .i64 j))).run Tryz.prog w = .ok (decide (k = j)) w := fun d => by
    simp [Op.equalIn, run_underlying Tryz.underlying27, run_underlying Tryz.underlying32, typeInfo, hi, hc]
    rw [Bool.eq_iff_iff]
    simp
  simp only [binOp]
  simp [Op.equal, Op.maxDepth, h 9998]
theorem eql_ptr73 {g h : Nat} {ca cb : Array Value} {ta tb : TypeId} {w : World} (ha : w.heap[g]? = some (.cells ca ta (0, 0))) (hb : w.heap[h]? = some (.cells cb tb (0, 0))) :
    (binOp .eql 27 (.iface 73 (.pointer (some ⟨g, 0, none⟩))) (.iface 73 (.pointer (some ⟨h, 0, none⟩)))).run Tryz.prog w = .ok (.bool (decide (g = h))) w := by
  obtain ⟨i, j, h1, h2, h3, h4⟩ := cmpinfo73
  by_cases e : g = h
  · subst e
    rw [run_eql_iface_ptr_same w ⟨g, 0, none⟩ Tryz.underlying27 Tryz.underlying73 h1 h2 h3]
    simp
  · rw [run_eql_iface_ptr_other w Tryz.underlying27 Tryz.underlying73 h1 h2 h3 h4 (fun h_ => e (by cases h_; rfl)) ha hb]
    simp [e]
theorem ok_block : ∀ {e : Err} {w : World}, e.ok w → (∃ k, e = .no k) ∨ ∃ g cs t, w.heap[g]? = some (.cells cs t (0, 0)) ∧ ((e = .other g) ∨ (∃ op a e1, e = .fault g op a e1) ∨ ∃ ga a b, e = .join g ga a b)
  | .no k, _, _ => .inl ⟨k, rfl⟩
  | .other g, _, h => h.elim
  | .fault g op a e1, _, h => .inr ⟨g, _, _, h.1, .inr (.inl ⟨_, _, _, rfl⟩)⟩
  | .join g ga a b, _, h => h.elim
theorem eql_same {a b : Err} {w : World} (ha : a.ok w) (hb : b.ok w) : (binOp .eql 27 a.val b.val).run Tryz.prog w = .ok (.bool (a.same b)) w := by
  cases a with
  | no k =>
    cases b with
    | no j => exact eql_int k j w
    | other h => exact hb.elim
    | fault h op2 a2 e2 => exact run_eql_iface_types 32 73 _ _ Tryz.underlying27 (by decide) w
    | join h ga2 a2 b2 => exact hb.elim
  | other g => exact ha.elim
  | fault g op1 a1 e1 =>
    cases b with
    | no j => exact run_eql_iface_types 73 32 _ _ Tryz.underlying27 (by decide) w
    | other h => exact hb.elim
    | fault h op2 a2 e2 => exact eql_ptr73 (ha.1) (hb.1)
    | join h ga2 a2 b2 => exact hb.elim
  | join g ga1 a1 b1 => exact ha.elim
set_option maxHeartbeats 8000000 in
set_option maxRecDepth 100000 in
theorem is_any : ∀ (n : Nat) (e : Err), e.size ≤ n → ∀ (w : World) (t : Err), e.ok w → t.ok w →
    Calls Tryz.prog 36 #[e.val, t.val, .bool true] w fun ev w' => ev = .returned (.bool (e.is t)) ∧ w = w' := by
  intro n
  induction n with
  | zero => intro e he; cases e <;> simp [Err.size] at he
  | succ n ih =>
  intro e he w t hok htok
  have HOK := Lib.hid hok
  have HT := Lib.hid htok
  have HIH := Lib.hid ih
  have HE : Hid (e.size ≤ n + 1) := Lib.hid he
  obtain ⟨tyt, vt, hvt⟩ := t.isIface
  have HVT := Lib.hid hvt
  rw [hvt]
  clear hok htok ih he hvt
  go_enter Tryz.func36, Tryz.ntmps36
  go_wp2
  go_loopg [0] (n + 1) (fun g s0 wr => wr = w ∧ ∃ cur : Err, s0 = cur.val ∧ Hid (cur.size ≤ g ∧ g ≤ n + 1 ∧ cur.ok w ∧ cur.is t = e.is t))
  case atStart => exact ⟨rfl, e, rfl, HE, Nat.le_refl _, HOK.out, rfl⟩
  case round =>
    obtain ⟨rfl, cur, rfl, HC⟩ := hrel
    have hq := eql_same HC.out.2.2.1 HT.out
    rw [HVT.out] at hq
    cases hs : cur.same t with
    | true =>
      rw [hs] at hq
      have HR : Hid (e.is t = true) := Lib.hid (by rw [← HC.out.2.2.2]; cases cur <;> simp [Err.is, hs])
      clear hs
      obtain ⟨tyc, vc, hvc⟩ := cur.isIface
      rw [hvc] at hq ⊢
      clear hvc
      go_wp2
      go_ret
      refine ⟨?_, rfl⟩; rw [HR.out]; (try rfl)
    | false =>
      rw [hs] at hq
      cases cur with
      | no k =>
        have l1 := lacks32_100
        simp only [Err.val] at hq ⊢
        have l2 := lacks32_103
        have l3 := lacks32_105
        have HR : Hid (e.is t = false) := Lib.hid (by rw [← HC.out.2.2.2]; simp [Err.is, hs])
        clear hs
        go_wp2
        go_ret
        refine ⟨?_, rfl⟩; rw [HR.out]; (try rfl)
      | other g => exact HC.out.2.2.1.elim
      | fault g op at_ e1 =>
        have l1 := lacks73_100
        simp only [Err.val] at hq ⊢
        have l2 := has73_103
        have mU := methodUnwrap
        have HR : Hid (e1.is t = e.is t) := Lib.hid (by rw [← HC.out.2.2.2]; simp [Err.is, hs])
        clear hs
        obtain ⟨ty, vv, hv⟩ := e1.isIface
        have hF : Hid (wr.heap[g]? = some (.cells #[.string op, .int .i64 at_, .iface ty vv] 77 (0, 0))) := Lib.hid (by rw [← hv]; exact HC.out.2.2.1.1)
        have HV := Lib.hid hv
        clear hv
        obtain ⟨k1, hk1⟩ : ∃ k1, gk = k1 + 1 := ⟨gk - 1, by have h1_ := HC.out.1; simp only [Err.size] at h1_; omega⟩
        have HK := Lib.hid hk1
        clear hk1
        go_wp2_with (go_at_call 134; refine (unwrap_any g op at_ (.iface ty vv) _ hF.out).mono ?_; rintro ev w2 ⟨rfl, rfl⟩)
        go_roundg k1
        case rel => exact ⟨rfl, e1, HV.out.symm, by have h1_ := HC.out.1; have h2_ := HK.out; simp only [Err.size] at h1_; omega, by have := HC.out.2.1; have := HK.out; omega, HC.out.2.2.1.2, HR.out⟩
        case measure => have := HK.out; omega
      | join g ga a b => exact HC.out.2.2.1.elim
set_option maxHeartbeats 4000000 in
set_option maxRecDepth 100000 in
theorem Is_any (e t : Err) (w : World) (hok : e.ok w) (htok : t.ok w) :
    Calls Tryz.prog 11 #[e.val, t.val] w fun ev w' => ev = .returned (.bool (e.is t)) ∧ w = w' := by
  have h35 := @run_callFunc_extern Tryz.prog 35 _ (ReflectliteType.typeOf) Tryz.func35 (by kernel_rfl) (by kernel_rfl) (by kernel_rfl) (by kernel_rfl)
  have h138 := @run_callFunc_extern Tryz.prog 138 _ (ReflectliteType.method (fun t => do Rtype.noPackHeld "Comparable" t; pure (.bool (← typeInfo t).comparable))) Tryz.func138 (by kernel_rfl) (by kernel_rfl) (by kernel_rfl) (by kernel_rfl)
  have mC := methodComparable
  have HI := Lib.hid (is_any _ e (Nat.le_refl _) w t hok htok)
  obtain ⟨tye, ve, hve⟩ := e.isIface
  rw [hve] at HI ⊢
  clear hve hok
  cases t with
  | no k =>
    have tO := typeOf32
    have c1 := comparable32
    simp only [Err.val] at HI ⊢
    clear htok
    go_enter Tryz.func11, Tryz.ntmps11
    go_wp2_with (go_at_call 36; refine HI.out.mono ?_; rintro ev w2 ⟨rfl, rfl⟩)
    go_ret
    exact ⟨rfl, rfl⟩
  | other g => exact htok.elim
  | fault g op at_ e1 =>
    have tO := typeOf73
    have c1 := comparable73
    simp only [Err.val] at HI ⊢
    clear htok
    go_enter Tryz.func11, Tryz.ntmps11
    go_wp2_with (go_at_call 36; refine HI.out.mono ?_; rintro ev w2 ⟨rfl, rfl⟩)
    go_ret
    exact ⟨rfl, rfl⟩
  | join g ga a b => exact htok.elim
end Go.Proofs.YtfabnapjbgamaaaGreatDoor.Er
/-! What fault's functions give of an error. -/
namespace Go.Proofs.YtfabnapjbgamaaaGreatDoor.Er
open Go.RowKit Go.Extern.Stop Go.Stop Go.Extern Go.Proofs.YtfabnapjbgamaaaGreatDoorW.PrintWords
set_option linter.unusedVariables false
set_option linter.unusedSimpArgs false
theorem new_any (op : ByteArray) (a : Int) (e : Err) (w : World) : Calls Tryz.prog 28 #[.string op, .int .i64 a, e.val] w fun ev w' => ev = .returned (Err.fault w.heap.size op a e).val ∧ w' = w.alloc (.cells #[.string op, .int .i64 a, e.val] 77) := by
  obtain ⟨ty, v, hv⟩ := e.isIface
  rw [hv]
  clear hv
  go_enter Tryz.func28, Tryz.ntmps28
  go_wp2
  go_ret
  exact ⟨rfl, rfl⟩
theorem new_nil (op : ByteArray) (a : Int) (w : World) : Calls Tryz.prog 28 #[.string op, .int .i64 a, .nilIface] w fun ev w' => ev = .returned .nilIface ∧ w = w' := by
  go_enter Tryz.func28, Tryz.ntmps28
  go_wp2
  go_ret
  exact ⟨rfl, rfl⟩
theorem new_ok (op : ByteArray) (a : Int) (e : Err) (w : World) (h : e.ok w) : (Err.fault w.heap.size op a e).ok (w.alloc (.cells #[.string op, .int .i64 a, e.val] 77)) :=
  ⟨get_new w _, Err.okBelow ((Below.refl _ _).alloc (Nat.le_refl _) _) h⟩
/-- The outermost fault of a chain. -/
def Err.firstF : Err → Option (Nat × ByteArray × Int × Err)
  | .no _ => none
  | .other _ => none
  | .fault g op a e => some (g, op, a, e)
  | .join _ _ a b => a.firstF.or b.firstF
theorem Err.first_firstF : ∀ e : Err, e.first = e.firstF.map (·.1)
  | .no _ => rfl
  | .other _ => rfl
  | .fault g op a e => rfl
  | .join _ _ a b => by
    simp only [Err.first, Err.firstF, a.first_firstF, b.first_firstF]
    cases a.firstF <;> simp
theorem Err.firstF_ok : ∀ {e : Err} {w : World} {g : Nat} {op : ByteArray} {a : Int} {e1 : Err}, e.ok w → e.firstF = some (g, op, a, e1) → (Err.fault g op a e1).ok w ∧ e1.size < e.size
  | .fault g op a e, _, _, _, _, _, h, h2 => by
    simp only [Err.firstF, Option.some.injEq, Prod.mk.injEq] at h2
    obtain ⟨rfl, rfl, rfl, rfl⟩ := h2
    exact ⟨h, by simp [Err.size]⟩
  | .join _ _ a b, w, g, op, x, e1, h, h2 => by
    simp only [Err.firstF] at h2
    exact h.elim
def Err.place (e : Err) : Int := match e.firstF with
  | some (_, _, a, _) => a
  | none => -1
theorem set_get {w : World} {g : Nat} {old v : Value} {t : TypeId} (h : w.heap[g]? = some (.cells #[old] t (0, 0))) : (w.setCell ⟨g, 0, none⟩ v).heap[g]? = some (.cells #[v] t (0, 0)) := by
  simpa using blk_set h 0 v
theorem set_far {w : World} {g b : Nat} {v : Value} (h : b ≠ g) : (w.setCell ⟨g, 0, none⟩ v).heap[b]? = w.heap[b]? := Below.heap_setCell _ _ _ _ h
/-- A store into a variable's block keeps an error whose blocks lie below it. -/
theorem ok_set {w w1 : World} {tb : Nat} {v : Value} {e : Err} (h : e.ok w) (hle : w.heap.size ≤ tb) (hb : Below w.heap.size w w1) : e.ok (w1.setCell ⟨tb, 0, none⟩ v) :=
  Err.okBelow (hb.setCell hle _) h
set_option maxHeartbeats 2000000 in
theorem kind_any (e : Err) (w : World) (ht : Typ w) (hok : e.ok w) : Calls Tryz.prog 20 #[e.val] w fun ev w' => ev = .returned (.int .i64 (e.errno.getD 0)) ∧ Below w.heap.size w w' := by
  obtain ⟨W, hW⟩ : ∃ W, W = w.alloc (.cells #[.int .i64 0] 32) := ⟨_, rfl⟩
  have hbel : Below w.heap.size w W := by rw [hW]; exact (Below.refl _ _).alloc (Nat.le_refl _) _
  have htb : W.heap[w.heap.size]? = some (.cells #[.int .i64 0] 32 (0, 0)) := by rw [hW]; exact get_new w _
  have HA := Lib.hid (As_errno e W w.heap.size (.int .i64 0) (ht.below hbel) (Err.okBelow hbel hok) htb)
  have HB := Lib.hid hbel
  have HT := Lib.hid htb
  obtain ⟨ty, v, hv⟩ := e.isIface
  rw [hv] at HA ⊢
  clear hv hbel htb ht hok
  cases he : e.errno with
  | none =>
    rw [he] at HA
    clear he
    go_enter Tryz.func20, Tryz.ntmps20
    go_upto_region 2 with (fail)
    rw [← hW]
    clear hW
    go_wp2_with (go_at_call 37; refine HA.out.mono ?_; rintro ev w2 ⟨rfl, hb2⟩)
    go_ret
    exact ⟨rfl, HB.out.trans (hb2.mono HB.out.size)⟩
  | some k =>
    rw [he] at HA
    clear he
    go_enter Tryz.func20, Tryz.ntmps20
    go_upto_region 2 with (fail)
    rw [← hW]
    clear hW
    go_wp2_with (go_at_call 37; refine HA.out.mono ?_; rintro ev w2 ⟨rfl, w1, hb1, rfl⟩; have hg := (cell_of (set_get (v := .int .i64 k) ((hb1.block _ (lt_of_get HT.out)).trans HT.out)) 0).trans rfl; have H1 := Lib.hid hb1; clear hb1)
    go_ret
    exact ⟨rfl, (HB.out.trans (H1.out.mono HB.out.size)).setCell (Nat.le_refl _) _⟩
theorem kind_nil (w : World) : Calls Tryz.prog 20 #[.nilIface] w fun ev w' => ev = .returned (.int .i64 0) ∧ Below w.heap.size w w' := by
  go_enter Tryz.func20, Tryz.ntmps20
  go_wp2_with (go_at_call 37; refine (As_nil_errno _ _).mono ?_; rintro ev w2 ⟨rfl, rfl⟩)
  go_ret
  exact ⟨rfl, (Below.refl _ _).alloc (Nat.le_refl _) _⟩
set_option maxHeartbeats 2000000 in
theorem place_any (e : Err) (w : World) (ht : Typ w) (hok : e.ok w) : Calls Tryz.prog 12 #[e.val] w fun ev w' => ev = .returned (.int .i64 e.place) ∧ Below w.heap.size w w' := by
  obtain ⟨W, hW⟩ : ∃ W, W = w.alloc (.cells #[.pointer none] 73) := ⟨_, rfl⟩
  have hbel : Below w.heap.size w W := by rw [hW]; exact (Below.refl _ _).alloc (Nat.le_refl _) _
  have htb : W.heap[w.heap.size]? = some (.cells #[.pointer none] 73 (0, 0)) := by rw [hW]; exact get_new w _
  have HA := Lib.hid (As_fault e W w.heap.size (.pointer none) (ht.below hbel) (Err.okBelow hbel hok) htb)
  have HB := Lib.hid hbel
  have HT := Lib.hid htb
  have HO := Lib.hid hok
  obtain ⟨ty, v, hv⟩ := e.isIface
  rw [hv] at HA ⊢
  clear hv hbel htb ht hok
  rw [Err.first_firstF] at HA
  unfold Err.place
  cases he : e.firstF with
  | none =>
    rw [he] at HA
    clear he
    go_enter Tryz.func12, Tryz.ntmps12
    go_upto_region 2 with (fail)
    rw [← hW]
    clear hW
    go_wp2_with (go_at_call 37; refine HA.out.mono ?_; rintro ev w2 ⟨rfl, hb2⟩)
    go_ret
    exact ⟨rfl, HB.out.trans (hb2.mono HB.out.size)⟩
  | some z =>
    obtain ⟨g, op, a, e1⟩ := z
    rw [he] at HA
    have HF := Lib.hid (Err.firstF_ok HO.out he).1.1
    clear he
    go_enter Tryz.func12, Tryz.ntmps12
    go_upto_region 2 with (fail)
    rw [← hW]
    clear hW
    go_wp2_with (go_at_call 37; refine HA.out.mono ?_; rintro ev w2 ⟨rfl, w1, hb1, rfl⟩; have hg := (cell_of (set_get (v := .pointer (some ⟨g, 0, none⟩)) ((hb1.block _ (lt_of_get HT.out)).trans HT.out)) 0).trans rfl; have H1 := Lib.hid hb1; have hq := (cell_of ((set_far (v := .pointer (some ⟨g, 0, none⟩)) (Nat.ne_of_lt (lt_of_get HF.out))).trans (((HB.out.trans (hb1.mono HB.out.size)).block _ (lt_of_get HF.out)).trans HF.out)) 1).trans rfl; clear hb1)
    go_ret
    exact ⟨rfl, (HB.out.trans (H1.out.mono HB.out.size)).setCell (Nat.le_refl _) _⟩
theorem place_nil (w : World) : Calls Tryz.prog 12 #[.nilIface] w fun ev w' => ev = .returned (.int .i64 (-1)) ∧ Below w.heap.size w w' := by
  go_enter Tryz.func12, Tryz.ntmps12
  go_wp2_with (go_at_call 37; refine (As_nil_fault _ _).mono ?_; rintro ev w2 ⟨rfl, rfl⟩)
  go_ret
  exact ⟨rfl, (Below.refl _ _).alloc (Nat.le_refl _) _⟩
end Go.Proofs.YtfabnapjbgamaaaGreatDoor.Er
/-! The faults of a chain, and their operations. -/
namespace Go.Proofs.YtfabnapjbgamaaaGreatDoor.Er
open Go.RowKit Go.Extern.Stop Go.Stop Go.Extern Go.Proofs.YtfabnapjbgamaaaGreatDoorW.PrintWords
set_option linter.unusedVariables false
set_option linter.unusedSimpArgs false
theorem elinfo73 : (Tryz.prog.info? 73).map (fun i => (i.zero, i.size, i.bytes)) = some (some (.pointer none), 1, 8) := by kernel_rfl
theorem run_app83 {W : World} {base g : Nat} {v x : Value} {xs : List Value} (HO : W.ownsRow base 73 1 v xs.length xs) (hg : W.heap[g]? = some (.cells #[x] 73 (0, 0))) (hx : x.oneCell' = true) (hbase : base ≤ W.heap.size) (hl : xs.length ≤ 1000000) :
    ∃ v1 w1, (Builtin.append_ #[83, 83] 83 #[v, .slice (some ⟨g, 0, none⟩) 1 1]).run Tryz.prog W = .ok v1 w1 ∧ w1.ownsRow base 73 1 v1 (xs ++ [x]).length (xs ++ [x]) ∧ W.grownBy w1 v.ownBlock ∧ (v1.ownBlock = v.ownBlock ∨ v1.ownBlock = some W.heap.size) := by
  obtain ⟨i0, hi, hzz⟩ := Option.map_eq_some_iff.1 elinfo73
  simp only [Prod.mk.injEq] at hzz
  obtain ⟨hz0, hz1, hz2⟩ := hzz
  obtain ⟨v1, w1, h1, h2, h3, _, h4⟩ := run_append_own_at (P := Tryz.prog) W base 83 83 73 i0 _ 1 8 Tryz.underlying83 hi hz0 hz1 hz2 rfl (by omega) v xs.length xs HO ⟨g, 0, none⟩ 1 1 [x] rfl
    (fun j u hj => by
      cases j with
      | zero => simp only [List.getElem?_cons_zero, Option.some.injEq] at hj; subst hj; exact (cell_of hg 0).trans rfl
      | succ j => simp at hj) (by simpa using hx) (by simp only [maxLen]; omega) (by omega) hbase
  exact ⟨v1, w1, h1, by rw [List.length_append]; exact h2, h3, h4⟩
section
variable {ops : Array Oper} {o : Oper} {rest : List Oper} {a : Act}
theorem wpList_app83 {W : World} {Q : Exit → Act → World → Prop} (hgd : o.guard = none) (s x : Operand) (ho : o.op = .call { callee := .builtin .append, args := #[s, x], argTypes := #[83, 83] }) (ht : o.type = 83) {base g : Nat} {v u : Value} {xs : List Value} (hs : a.eval s = v) (hx : a.eval x = .slice (some ⟨g, 0, none⟩) 1 1)
    (HO : W.ownsRow base 73 1 v xs.length xs) (hg : W.heap[g]? = some (.cells #[u] 73 (0, 0))) (hu : u.oneCell' = true) (hbase : base ≤ W.heap.size) (hl : xs.length ≤ 1000000)
    (h : ∀ v1 w1, w1.ownsRow base 73 1 v1 (xs ++ [u]).length (xs ++ [u]) → W.grownBy w1 v.ownBlock → (v1.ownBlock = v.ownBlock ∨ v1.ownBlock = some W.heap.size) → wpList Tryz.prog ops Q rest (a.put o.dst v1) w1) :
    wpList Tryz.prog ops Q (o :: rest) a W := by
  obtain ⟨v1, w1, hr1, h1, hgr, hat⟩ := run_app83 HO hg hu hbase hl
  refine wpList_plain hgd fun K hK => ?_
  unfold Oper.wp execOp
  simp only [ho, ht, resolve, invoke, builtin, Sem.run_bind, Sem.run_pure, Result.andThen_ok, List.map_toArray, List.map_cons, List.map_nil, hs, hx, hr1]
  exact hK _ _ (h v1 w1 h1 hgr hat)
end
theorem elinfo9 : (Tryz.prog.info? 9).map (fun i => (i.zero, i.size, i.bytes)) = some (some (.string ⟨#[]⟩), 1, 16) := by kernel_rfl
theorem run_app56 {W : World} {base g : Nat} {v x : Value} {xs : List Value} (HO : W.ownsRow base 9 1 v xs.length xs) (hg : W.heap[g]? = some (.cells #[x] 9 (0, 0))) (hx : x.oneCell' = true) (hbase : base ≤ W.heap.size) (hl : xs.length ≤ 1000000) :
    ∃ v1 w1, (Builtin.append_ #[56, 56] 56 #[v, .slice (some ⟨g, 0, none⟩) 1 1]).run Tryz.prog W = .ok v1 w1 ∧ w1.ownsRow base 9 1 v1 (xs ++ [x]).length (xs ++ [x]) ∧ W.grownBy w1 v.ownBlock ∧ (v1.ownBlock = v.ownBlock ∨ v1.ownBlock = some W.heap.size) := by
  obtain ⟨i0, hi, hzz⟩ := Option.map_eq_some_iff.1 elinfo9
  simp only [Prod.mk.injEq] at hzz
  obtain ⟨hz0, hz1, hz2⟩ := hzz
  obtain ⟨v1, w1, h1, h2, h3, _, h4⟩ := run_append_own_at (P := Tryz.prog) W base 56 56 9 i0 _ 1 16 Tryz.underlying56 hi hz0 hz1 hz2 rfl (by omega) v xs.length xs HO ⟨g, 0, none⟩ 1 1 [x] rfl
    (fun j u hj => by
      cases j with
      | zero => simp only [List.getElem?_cons_zero, Option.some.injEq] at hj; subst hj; exact (cell_of hg 0).trans rfl
      | succ j => simp at hj) (by simpa using hx) (by simp only [maxLen]; omega) (by omega) hbase
  exact ⟨v1, w1, h1, by rw [List.length_append]; exact h2, h3, h4⟩
section
variable {ops : Array Oper} {o : Oper} {rest : List Oper} {a : Act}
theorem wpList_app56 {W : World} {Q : Exit → Act → World → Prop} (hgd : o.guard = none) (s x : Operand) (ho : o.op = .call { callee := .builtin .append, args := #[s, x], argTypes := #[56, 56] }) (ht : o.type = 56) {base g : Nat} {v u : Value} {xs : List Value} (hs : a.eval s = v) (hx : a.eval x = .slice (some ⟨g, 0, none⟩) 1 1)
    (HO : W.ownsRow base 9 1 v xs.length xs) (hg : W.heap[g]? = some (.cells #[u] 9 (0, 0))) (hu : u.oneCell' = true) (hbase : base ≤ W.heap.size) (hl : xs.length ≤ 1000000)
    (h : ∀ v1 w1, w1.ownsRow base 9 1 v1 (xs ++ [u]).length (xs ++ [u]) → W.grownBy w1 v.ownBlock → (v1.ownBlock = v.ownBlock ∨ v1.ownBlock = some W.heap.size) → wpList Tryz.prog ops Q rest (a.put o.dst v1) w1) :
    wpList Tryz.prog ops Q (o :: rest) a W := by
  obtain ⟨v1, w1, hr1, h1, hgr, hat⟩ := run_app56 HO hg hu hbase hl
  refine wpList_plain hgd fun K hK => ?_
  unfold Oper.wp execOp
  simp only [ho, ht, resolve, invoke, builtin, Sem.run_bind, Sem.run_pure, Result.andThen_ok, List.map_toArray, List.map_cons, List.map_nil, hs, hx, hr1]
  exact hK _ _ (h v1 w1 h1 hgr hat)
end
def Err.chain : Nat → Err → List (Nat × ByteArray)
  | 0, _ => []
  | n + 1, e => match e.firstF with
    | none => []
    | some (g, op, _, e1) => (g, op) :: Err.chain n e1
def ptrs (l : List (Nat × ByteArray)) : List Value := l.map fun z => .pointer (some ⟨z.1, 0, none⟩)
def texts (l : List (Nat × ByteArray)) : List Value := l.map fun z => .string z.2
theorem chain_len : ∀ (n : Nat) (e : Err), (e.chain n).length ≤ n
  | 0, _ => Nat.le_refl _
  | n + 1, e => by
    simp only [Err.chain]
    split
    · simp
    · rename_i g op a e1 he
      simp only [List.length_cons]
      have := chain_len n e1
      omega
theorem chain_ok : ∀ (n : Nat) {e : Err} {w : World}, e.ok w → ∀ z ∈ e.chain n, ∃ a v, w.heap[z.1]? = some (.cells #[.string z.2, .int .i64 a, v] 77 (0, 0))
  | 0, _, _, _, z, hz => by cases hz
  | n + 1, e, w, h, z, hz => by
    simp only [Err.chain] at hz
    split at hz
    · cases hz
    · rename_i g op a e1 he
      have hf := (Err.firstF_ok h he).1
      rcases List.mem_cons.1 hz with rfl | hz
      · exact ⟨_, _, hf.1⟩
      · exact chain_ok n hf.2 z hz
theorem own_base {W : World} {base sz n : Nat} {et : TypeId} {v : Value} {xs : List Value} (h : W.ownsRow base et sz v n xs) : ∀ q, v.ownBlock = some q → base ≤ q := by
  intro q hq
  rcases h.2 with ⟨rfl, _⟩ | ⟨g, cap, cur, rfl, h1, _⟩
  · simp [Value.ownBlock] at hq
  · simp [Value.ownBlock] at hq
    omega
theorem below_app {w W w3 : World} {tb sz n : Nat} {et : TypeId} {v : Value} {xs : List Value} {o : Obj} (hb : Below tb w W) (HO : W.ownsRow tb et sz v n xs) (hg : (W.alloc o).grownBy w3 v.ownBlock) (hle : tb ≤ W.heap.size) : Below tb w w3 :=
  pw_below_grown (hb.alloc hle _) _ (by simp; omega) hg (fun q hq => own_base HO q hq)
theorem below_grown_app {w1 wo w3 : World} {v : Value} {o : Obj} (hb : Below w1.heap.size w1 wo) (hg : (wo.alloc o).grownBy w3 v.ownBlock) (hn : ∀ q, v.ownBlock = some q → w1.heap.size ≤ q) : Below w1.heap.size w1 w3 :=
  pw_below_grown (hb.alloc hb.size _) _ (by have := hb.size; simp; omega) hg hn
theorem app_keep {W w3 : World} {g : Nat} {v : Value} {o o' : Obj} (hg : (W.alloc o).grownBy w3 v.ownBlock) (h : W.heap[g]? = some o') (hne : v.ownBlock ≠ some g) : w3.heap[g]? = some o' :=
  (hg.block g (by have := lt_of_get h; simp; omega) (fun e => hne e.symm)).trans (get_alloc h o)
set_option maxHeartbeats 4000000 in
set_option maxRecDepth 100000 in
theorem faults_any (e : Err) (w : World) (ht : Typ w) (hok : e.ok w) (hs : e.size ≤ 100000) : Calls Tryz.prog 44 #[e.val] w fun ev w' => ∃ v, ev = .returned v ∧ w'.ownsRow w.heap.size 73 1 v (ptrs (e.chain e.size)).length (ptrs (e.chain e.size)) ∧ Below w.heap.size w w' := by
  have HS := Lib.hid hs
  have HOK := Lib.hid hok
  have HT := Lib.hid ht
  clear hs hok ht
  obtain ⟨tb, htb⟩ : ∃ tb, tb = w.heap.size := ⟨_, rfl⟩
  have HTB := Lib.hid htb
  rw [← htb]
  go_enter Tryz.func44, Tryz.ntmps44
  go_upto_block 0 with (fail)
  obtain ⟨W, hW⟩ : ∃ W, W = w.alloc (.cells #[.pointer none] 73) := ⟨_, rfl⟩
  rw [← hW, ← htb]
  have h0 : Hid (W.heap[tb]? = some (.cells #[.pointer none] 73 (0, 0))) := Lib.hid (by rw [hW, htb]; exact get_new w _)
  have hb0 : Hid (Below tb w W) := Lib.hid (by rw [hW, htb]; exact (Below.refl _ _).alloc (Nat.le_refl _) _)
  have hn0 : Hid ((Value.slice none 0 0).ownBlock ≠ some tb) := Lib.hid (by simp [Value.ownBlock])
  have ho0 : Hid (W.ownsRow tb 73 1 (.slice none 0 0) (ptrs []).length (ptrs [])) := Lib.hid (own_nil _ _ _ _)
  clear hW htb
  go_wp2
  go_loopg [0, 3] e.size (fun g s0 s3 wr => ∃ (cur : Err) (done : List (Nat × ByteArray)) (old : Value), s0 = cur.val ∧ Hid (cur.size ≤ g ∧ g + done.length ≤ e.size ∧ cur.ok w ∧ e.chain e.size = done ++ cur.chain g) ∧ Hid (wr.ownsRow tb 73 1 s3 (ptrs done).length (ptrs done)) ∧ Hid (s3.ownBlock ≠ some tb) ∧ Hid (wr.heap[tb]? = some (.cells #[old] 73 (0, 0))) ∧ Hid (Below tb w wr))
  case atStart => exact ⟨e, [], _, rfl, ⟨Nat.le_refl _, by simp, HOK.out, rfl⟩, ho0, hn0, h0, hb0⟩
  case round =>
    clear h0 hb0 hn0 ho0
    obtain ⟨cur, done, old, rfl, HC, HO, HN, HG, HB⟩ := hrel
    obtain ⟨wo, rfl⟩ : ∃ wo : World, wo = wr := ⟨_, rfl⟩
    have HA := Lib.hid (As_fault cur wo tb old (HT.out.below (HTB.out ▸ HB.out)) (Err.okBelow (HTB.out ▸ HB.out) HC.out.2.2.1) HG.out)
    obtain ⟨ty, v, hv⟩ := cur.isIface
    rw [hv] at HA ⊢
    clear hv
    rw [Err.first_firstF] at HA
    obtain ⟨k1, hk1⟩ : ∃ k1, gk = k1 + 1 := ⟨gk - 1, by have h1_ := HC.out.1; have : 0 < cur.size := by cases cur <;> simp [Err.size]
                                                        omega⟩
    have HK := Lib.hid hk1
    clear hk1
    cases he : cur.firstF with
    | none =>
      rw [he] at HA
      have HE : Hid (e.chain e.size = done) := Lib.hid (by have h_ := HC.out.2.2.2; rw [HK.out] at h_; simpa [Err.chain, he] using h_)
      clear he
      go_wp2_with (go_at_call 37; refine HA.out.mono ?_; rintro ev w2 ⟨rfl, hb2⟩; have HB2 := Lib.hid hb2; clear hb2)
      go_ret
      refine ⟨_, rfl, ?_, HB.out.trans (HB2.out.mono (by have := HB.out.size; have := lt_of_get HG.out; omega))⟩
      rw [HE.out]
      exact own_move HO.out (fun q hq => HB2.out.block q (own_lt HO.out q hq))
    | some z =>
      obtain ⟨g, op, a, e1⟩ := z
      rw [he] at HA
      have HF := Lib.hid (Err.firstF_ok HC.out.2.2.1 he)
      have HE : Hid (e.chain e.size = (done ++ [(g, op)]) ++ e1.chain k1) := Lib.hid (by have h_ := HC.out.2.2.2; rw [HK.out] at h_; simpa [Err.chain, he] using h_)
      clear he
      go_upto_region 4 with (go_at_call 37; refine HA.out.mono ?_; rintro ev w2 ⟨rfl, w1, hb1, rfl⟩; have H1 := Lib.hid hb1; clear hb1)
      have hle : Hid (tb < wo.heap.size) := Lib.hid (lt_of_get HG.out)
      obtain ⟨W2, hW2⟩ : ∃ W2, W2 = w1.setCell ⟨tb, 0, none⟩ (.pointer (some ⟨g, 0, none⟩)) := ⟨_, rfl⟩
      rw [← hW2]
      have hg1 : W2.heap[tb]? = some (.cells #[.pointer (some ⟨g, 0, none⟩)] 73 (0, 0)) := by rw [hW2]; exact set_get ((H1.out.block _ (lt_of_get HG.out)).trans HG.out)
      have hB2 : Below tb w W2 := by rw [hW2]; exact (HB.out.trans (H1.out.mono (Nat.le_of_lt hle.out))).setCell (Nat.le_refl _) _
      have hO2 : W2.ownsRow tb 73 1 u3 (ptrs done).length (ptrs done) := own_move HO.out (fun q hq => by
        rw [hW2]
        exact (set_far (fun h_ => HN.out (by rw [← h_]; exact hq))).trans (H1.out.block q (own_lt HO.out q hq)))
      have hsz : wo.heap.size ≤ W2.heap.size := by rw [hW2]; simpa using H1.out.size
      have HG1 := Lib.hid hg1
      have HB2 := Lib.hid hB2
      have HO2 := Lib.hid hO2
      have HSZ := Lib.hid hsz
      have c1 : W2.cell? ⟨tb, 0, none⟩ = some (.pointer (some ⟨g, 0, none⟩)) := (cell_of hg1 0).trans rfl
      clear hW2 hg1 hB2 hO2 hsz H1 HO HG HB HA
      obtain ⟨ty1, v1, hv1⟩ := e1.isIface
      have HV1 := Lib.hid hv1
      have HFB : Hid (w.heap[g]? = some (.cells #[.string op, .int .i64 a, .iface ty1 v1] 77 (0, 0))) := Lib.hid (by rw [← hv1]; exact HF.out.1.1)
      clear hv1
      obtain ⟨uo, huo⟩ : ∃ uo, uo = u3 := ⟨_, rfl⟩
      rw [← huo] at HO2 HN ⊢
      clear huo
      have HOA : Hid (∀ o, (W2.alloc o).ownsRow tb 73 1 uo (ptrs done).length (ptrs done)) := Lib.hid (fun o => own_move HO2.out (fun q hq => Below.heap_alloc _ _ q (own_lt HO2.out q hq)))
      have HGA : Hid (∀ o, (W2.alloc o).heap[W2.heap.size]? = some o) := Lib.hid (get_new W2)
      go_wp2_with (at_builtin; (refine wpList_app83 rfl (.tmp 8) (.tmp 10) rfl rfl (by rfl) (by rfl) (HOA.out _) (HGA.out _) rfl (by have := HSZ.out; have := hle.out; simp; omega) (by have := HC.out.2.1; have := HS.out; simp [ptrs]; omega) ?_); intro v2 w3 hown hgr hat; have HOW := Lib.hid hown; have HGR := Lib.hid hgr; have HAT := Lib.hid hat; have HB3 := Lib.hid (below_app HB2.out HO2.out HGR.out (by have := HSZ.out; have := hle.out; omega)); have HG3 := Lib.hid (app_keep HGR.out HG1.out HN.out); have c3 := (cell_of HG3.out 0).trans rfl; have q2 : w3.cell? ⟨g, 2, none⟩ = some (.iface ty1 v1) := (cell_of ((HB3.out.block _ (by have := lt_of_get HFB.out; have := HTB.out; omega)).trans HFB.out) 2).trans rfl; clear hown hgr hat)
      go_roundg k1
      case rel => exact ⟨e1, done ++ [(g, op)], _, HV1.out.symm, ⟨by have h1_ := HC.out.1; have h2_ := HK.out; have h3_ := HF.out.2; omega, by have h1_ := HC.out.2.1; have h2_ := HK.out; simp; omega, HF.out.1.2, HE.out⟩, Lib.hid (by have h_ := HOW.out; simpa [ptrs] using h_), fun h_ => HAT.out.elim (fun h2_ => HN.out (h2_ ▸ h_)) (fun h2_ => by rw [h2_] at h_; have h3_ := Option.some.inj h_; have := HSZ.out; have := hle.out; simp at h3_; omega), HG3.out, HB3.out⟩
      case measure => have := HK.out; omega
theorem faults_nil (w : World) : Calls Tryz.prog 44 #[.nilIface] w fun ev w' => ev = .returned (.slice none 0 0) ∧ Below w.heap.size w w' := by
  go_enter Tryz.func44, Tryz.ntmps44
  go_wp2
  refine wp_loop_rounds 1 ?_
  rw [rounds_succ]
  go_wp2_with (go_at_call 37; refine (As_nil_fault _ _).mono ?_; rintro ev w2 ⟨rfl, rfl⟩)
  go_ret
  exact ⟨rfl, (Below.refl _ _).alloc (Nat.le_refl _) _⟩
theorem own_at {W : World} {base n : Nat} {et : TypeId} {v : Value} {xs : List Value} (h : W.ownsRow base et 1 v n xs) : ∃ A0 c, v = .slice A0 n c ∧ xs.length = n ∧ n ≤ c ∧ ∀ i x, xs[i]? = some x → ∃ ad, A0 = some ad ∧ W.cell? (ad.add i) = some x := by
  have hl := h.1
  rw [Nat.mul_one] at hl
  rcases h.2 with ⟨rfl, rfl⟩ | ⟨g, cap, cur, rfl, h1, h2, h3, h4, h5, h6⟩
  · exact ⟨none, 0, rfl, hl, Nat.le_refl _, fun i x hx => by rw [List.length_eq_zero_iff.1 hl] at hx; cases hx⟩
  · refine ⟨some ⟨g, 0, none⟩, cap, rfl, hl, h3, fun i x hx => ⟨_, rfl, ?_⟩⟩
    have hi := (List.getElem?_eq_some_iff.1 hx).1
    rw [← h6, List.getElem?_take] at hx
    rw [if_pos (by omega)] at hx
    have : W.cell? ⟨g, i, none⟩ = cur[i]? := cell_of h2 i
    rw [add_plain]
    exact this.trans (by simpa using hx)
set_option maxHeartbeats 4000000 in
set_option maxRecDepth 100000 in
theorem trace_any (e : Err) (w : World) (ht : Typ w) (hok : e.ok w) (hs : e.size ≤ 100000) : Calls Tryz.prog 27 #[e.val] w fun ev w' => ∃ v, ev = .returned v ∧ w'.ownsRow w.heap.size 9 1 v (texts (e.chain e.size)).length (texts (e.chain e.size)) ∧ Below w.heap.size w w' := by
  have HFA := Lib.hid (faults_any e w ht hok hs)
  have HCO := Lib.hid (chain_ok e.size hok)
  have HCL := Lib.hid (chain_len e.size e)
  have HS := Lib.hid hs
  obtain ⟨ty, v0, hv⟩ := e.isIface
  rw [hv] at HFA ⊢
  clear hv hs ht hok
  generalize e.chain e.size = ch at HFA HCO HCL ⊢
  obtain ⟨tb, htb⟩ : ∃ tb, tb = w.heap.size := ⟨_, rfl⟩
  have HTB := Lib.hid htb
  rw [← htb] at HFA ⊢
  clear htb
  go_enter Tryz.func27, Tryz.ntmps27
  go_upto_block 0 with (go_at_call 44; refine HFA.out.mono ?_; rintro ev w1 ⟨vf, rfl, hof, hb1⟩; have HOF := Lib.hid hof; have HB1 := Lib.hid hb1; clear hof hb1; obtain ⟨AF, cf, rfl, hnf, hcf, hat⟩ := own_at HOF.out; have HAT := Lib.hid hat; clear hat)
  have hlc : Hid ((ptrs ch).length = ch.length) := Lib.hid (by simp [ptrs])
  generalize (ptrs ch).length = m at HOF hnf hcf hlc ⊢
  clear hnf
  have hm5 : m ≤ 100000 := by have := hlc.out; have := HCL.out; have := HS.out; omega
  have HTS : Hid (tb ≤ w1.heap.size) := Lib.hid (by have := HTB.out; have := HB1.out.size; omega)
  have hlt : Hid (m ≤ 100000) := Lib.hid (by have := hlc.out; have := HCL.out; have := HS.out; omega)
  have ho0 : Hid (w1.ownsRow tb 9 1 (.slice none 0 0) (texts []).length (texts [])) := Lib.hid (own_nil _ _ _ _)
  have hb0 : Hid (Below w1.heap.size w1 w1) := Lib.hid (Below.refl _ _)
  have hn0 : Hid (∀ q, (Value.slice none 0 0).ownBlock = some q → w1.heap.size ≤ q) := Lib.hid (by simp [Value.ownBlock])
  go_wp2
  go_loopw [3, 9] (fun s3 s9 wr => ∃ (k : Nat), Hid (k ≤ m) ∧ s9 = .int .i64 k ∧ Hid (wr.ownsRow tb 9 1 s3 (texts (ch.take k)).length (texts (ch.take k))) ∧ Hid (∀ q, s3.ownBlock = some q → w1.heap.size ≤ q) ∧ Hid (Below w1.heap.size w1 wr)) (fun _ s9 _ => m - (intOf s9).toNat)
  case atStart => exact ⟨0, Nat.zero_le _, rfl, ho0, hn0, hb0⟩
  case round =>
    clear ho0 hb0 hn0
    obtain ⟨k, HK, rfl, HO, HN, HB⟩ := hrel
    obtain ⟨wo, rfl⟩ : ∃ wo : World, wo = wr := ⟨_, rfl⟩
    by_cases hkm : k < m
    · have hkm' : k < ch.length := by have := hlc.out; omega
      obtain ⟨z, hz⟩ : ∃ z, ch[k]? = some z := ⟨_, List.getElem?_eq_getElem hkm'⟩
      obtain ⟨af, rfl, hc1⟩ := HAT.out k (.pointer (some ⟨z.1, 0, none⟩)) (by simp [ptrs, hz])
      obtain ⟨a0, va, hf⟩ := HCO.out z (List.mem_of_getElem? hz)
      have HF := Lib.hid hf
      have c1 : wo.cell? (af.add k) = some (.pointer (some ⟨z.1, 0, none⟩)) := pw_cell_below HB.out hc1
      have HBW : Hid (Below tb w wo) := Lib.hid (HB1.out.trans (HB.out.mono HTS.out))
      have c2 : wo.cell? ⟨z.1, 0, none⟩ = some (.string z.2) := (cell_of ((HBW.out.block _ (by have := lt_of_get HF.out; have := HTB.out; omega)).trans HF.out) 0).trans rfl
      have HTK : Hid (ch.take (k + 1) = ch.take k ++ [z]) := Lib.hid (by rw [List.take_add_one, hz]; rfl)
      clear hf hc1 hz hkm'
      obtain ⟨uo, huo⟩ : ∃ uo, uo = u3 := ⟨_, rfl⟩
      rw [← huo] at HO HN ⊢
      clear huo
      have HOA : Hid (∀ o, (wo.alloc o).ownsRow tb 9 1 uo (texts (ch.take k)).length (texts (ch.take k))) := Lib.hid (fun o => own_move HO.out (fun q hq => Below.heap_alloc _ _ q (own_lt HO.out q hq)))
      have HGA : Hid (∀ o, (wo.alloc o).heap[wo.heap.size]? = some o) := Lib.hid (get_new wo)
      go_wp2_with (at_builtin; (refine wpList_app56 rfl (.tmp 13) (.tmp 18) rfl rfl (by rfl) (by rfl) (HOA.out _) (HGA.out _) rfl (by have := HBW.out.size; have := HTB.out; simp; omega) (by have := hlt.out; have := HK.out; simp [texts]; omega) ?_); intro v2 w3 hown hgr hat; have HOW := Lib.hid hown; have HGR := Lib.hid hgr; have HAT2 := Lib.hid hat; clear hown hgr hat)
      go_roundw
      case rel => exact ⟨k + 1, Lib.hid (by omega), by go_num, Lib.hid (by rw [HTK.out]; have h_ := HOW.out; simpa [texts] using h_), fun q hq => HAT2.out.elim (fun h2_ => HN.out q (h2_ ▸ hq)) (fun h2_ => by rw [h2_] at hq; have h3_ := Option.some.inj hq; simp at h3_; have := HB.out.size; omega), below_grown_app HB.out HGR.out HN.out⟩
      case measure => simp [intOf]; omega
    · have hke : k = m := by have := HK.out; omega
      have HKE := Lib.hid hke
      clear hke
      go_wp2
      go_ret
      refine ⟨_, rfl, ?_, HB1.out.trans (HB.out.mono HTS.out)⟩
      have h_ := HO.out
      rw [List.take_of_length_le (by have := HKE.out; have := hlc.out; omega)] at h_
      exact h_
set_option maxHeartbeats 400000 in
theorem trace_nil (w : World) : Calls Tryz.prog 27 #[.nilIface] w fun ev w' => ev = .returned (.slice none 0 0) ∧ Below w.heap.size w w' := by
  go_enter Tryz.func27, Tryz.ntmps27
  go_wp2_with (go_at_call 44; refine (faults_nil _).mono ?_; rintro ev w1 ⟨rfl, hb⟩; have HB := Lib.hid hb; clear hb)
  refine wp_loop_rounds 1 ?_
  rw [rounds_succ]
  go_wp2
  go_ret
  exact ⟨rfl, HB.out⟩
end Go.Proofs.YtfabnapjbgamaaaGreatDoor.Er
