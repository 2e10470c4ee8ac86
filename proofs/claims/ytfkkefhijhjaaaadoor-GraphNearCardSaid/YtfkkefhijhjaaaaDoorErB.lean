import Derived.Test.YtfkkefhijhjaaaaDoorErA
import Derived.Lib.Hide
import Derived.Deep.LoopGhost
import Derived.BigFrame
import Derived.Laws.IdiomRangeMap
/-! Errors as data; errors.as and errors.As at a concrete target. -/
namespace Go.Proofs.YtfkkefhijhjaaaaDoor.Er
open Go.RowKit Go.Extern.Stop Go.Stop Go.Extern
set_option linter.unusedVariables false
set_option linter.unusedSimpArgs false
inductive Err where
  | no (k : Int)
  | other (g : Nat)
  | fault (g : Nat) (op : ByteArray) (at_ : Int) (e : Err)
  | join (g ga : Nat) (a b : Err)
def Err.val : Err → Value
  | .no k => .iface 39 (.int .i64 k)
  | .other g => .iface 0 (.pointer (some ⟨g, 0, none⟩))
  | .fault g _ _ _ => .iface 86 (.pointer (some ⟨g, 0, none⟩))
  | .join g _ _ _ => .iface 0 (.pointer (some ⟨g, 0, none⟩))
def Err.ok (w : World) : Err → Prop
  | .no _ => True
  | .other g => False
  | .fault g op at_ e => w.heap[g]? = some (.cells #[.string op, .int .i64 at_, e.val] 89 (0, 0)) ∧ e.ok w
  | .join g ga a b => False
def Err.size : Err → Nat
  | .no _ => 1
  | .other _ => 1
  | .fault _ _ _ e => e.size + 1
  | .join _ _ a b => a.size + b.size + 1
def Err.errno : Err → Option Int
  | .no k => some k
  | .other _ => none
  | .fault _ _ _ e => e.errno
  | .join _ _ a b => a.errno.or b.errno
def Err.first : Err → Option Nat
  | .no _ => none
  | .other _ => none
  | .fault g _ _ _ => some g
  | .join _ _ a b => a.first.or b.first
theorem lt_of_get {w : World} {g : Nat} {o : Obj} (h : w.heap[g]? = some o) : g < w.heap.size := by
  rcases Nat.lt_or_ge g w.heap.size with h1 | h1
  · exact h1
  · rw [Array.getElem?_eq_none h1] at h
    cases h
/-- What keeps an error: its own blocks stay. -/
theorem Err.keep {w w' : World} (h : ∀ (g : Nat) (cs : Array Value) (t : TypeId), (t = 89) → w.heap[g]? = some (Obj.cells cs t (0, 0)) → w'.heap[g]? = some (Obj.cells cs t (0, 0))) : ∀ e : Err, e.ok w → e.ok w'
  | .no _, _ => trivial
  | .other g, h1 => h1
  | .fault g op at_ e, ⟨h1, h2⟩ => ⟨h g _ _ (by simp) h1, e.keep h h2⟩
  | .join g ga a b, h1 => h1
theorem Err.okBelow {w w' : World} (hb : Below w.heap.size w w') {e : Err} (h : e.ok w) : e.ok w' := e.keep (fun g cs t _ hg => (hb.block g (lt_of_get hg)).trans hg) h
theorem Err.isIface (e : Err) : ∃ ty v, e.val = .iface ty v := by cases e <;> exact ⟨_, _, rfl⟩
theorem cell_of {w : World} {g : Nat} {cs : Array Value} {t : TypeId} {f : Nat × Nat} (h : w.heap[g]? = some (.cells cs t f)) (j : Nat) : w.cell? ⟨g, j, none⟩ = cs[j]? := by simp [World.cell?, h]
theorem frozen_of {w : World} {g : Nat} {cs : Array Value} {t : TypeId} (h : w.heap[g]? = some (.cells cs t (0, 0))) (j : Nat) : w.frozen? ⟨g, j, none⟩ = false := by simp [World.frozen?, h]
theorem get_alloc {w : World} {g : Nat} {o : Obj} (h : w.heap[g]? = some o) (o' : Obj) : (w.alloc o').heap[g]? = some o := (Below.heap_alloc w o' g (lt_of_get h)).trans h
theorem get_new (w : World) (o : Obj) : (w.alloc o).heap[w.heap.size]? = some o := heap_alloc_new w o
theorem unwrap_any (g : Nat) (op : ByteArray) (at_ : Int) (v : Value) (w : World) (h : w.heap[g]? = some (.cells #[.string op, .int .i64 at_, v] 89 (0, 0))) :
    Calls Tryd.prog 128 #[.pointer (some ⟨g, 0, none⟩)] w fun e w' => e = .returned v ∧ w = w' := by
  have h2 : w.cell? ⟨g, 2, none⟩ = some v := (cell_of h 2).trans rfl
  go_enter Tryd.func128, Tryd.ntmps128
  go_wp2
  go_ret
  exact ⟨rfl, rfl⟩
def Aserrno (o : Option Int) (tb : Nat) (w : World) (ev : Ending) (w' : World) : Prop :=
  ev = .returned (.bool o.isSome) ∧ match o with
  | some k => ∃ w1, Below w.heap.size w w1 ∧ w' = w1.setCell ⟨tb, 0, none⟩ (.int .i64 k)
  | none => Below w.heap.size w w'
set_option maxHeartbeats 8000000 in
set_option maxRecDepth 100000 in
theorem as_errno : ∀ (n : Nat) (e : Err), e.size ≤ n → ∀ (w : World) (tb : Nat) (old : Value) (va : Addr), e.ok w → w.heap[tb]? = some (.cells #[old] 39 (0, 0)) → w.cell? va = some (.pointer (some ⟨tb, 0, none⟩)) →
    Calls Tryd.prog 66 #[e.val, .iface 85 (.pointer (some ⟨tb, 0, none⟩)), .agg #[.pointer (some ⟨1, 85, none⟩), .pointer (some va), .int .u64 150], .iface 144 (.agg #[.pointer (some ⟨1, 39, none⟩)])] w fun ev w' => Aserrno (e.errno) tb w ev w' := by
  intro n
  induction n with
  | zero => intro e he; cases e <;> simp [Err.size] at he
  | succ n ih =>
  intro e he w tb old va hok htb hva
  have h76 := @run_callFunc_extern Tryd.prog 76 _ (ReflectliteType.typeOf) Tryd.func76 (by kernel_rfl) (by kernel_rfl) (by kernel_rfl) (by kernel_rfl)
  have h133 := @run_callFunc_extern Tryd.prog 133 _ (ReflectliteType.relation "AssignableTo" ReflectliteType.assignableTo) Tryd.func133 (by kernel_rfl) (by kernel_rfl) (by kernel_rfl) (by kernel_rfl)
  have h63 := @run_callFunc_extern Tryd.prog 63 _ (fun args => ReflectliteValue.unpack (args.getD 0 (.tuple #[]))) Tryd.func63 (by kernel_rfl) (by kernel_rfl) (by kernel_rfl) (by kernel_rfl)
  have h77 := @run_callFunc_extern Tryd.prog 77 _ (ReflectliteValue.method (ReflectliteValue.valueError "reflectlite.Value.Elem" 0) ReflectliteValue.elem) Tryd.func77 (by kernel_rfl) (by kernel_rfl) (by kernel_rfl) (by kernel_rfl)
  have h78 := @run_callFunc_extern Tryd.prog 78 _ (ReflectliteValue.set) Tryd.func78 (by kernel_rfl) (by kernel_rfl) (by kernel_rfl) (by kernel_rfl)
  have mA := methodAssignableTo
  have HOK := Lib.hid hok
  have HTB := Lib.hid htb
  have HVA := Lib.hid hva
  have HIH := Lib.hid ih
  have HE : Hid (e.size ≤ n + 1) := Lib.hid he
  have hsz0 : va.block < w.heap.size := by
    rcases Nat.lt_or_ge va.block w.heap.size with h | h
    · exact h
    · simp [World.cell?, Array.getElem?_eq_none h] at hva
  clear hok htb hva ih he
  go_enter Tryd.func66, Tryd.ntmps66
  go_wp2
  obtain ⟨W, hW⟩ : ∃ W, W = w.alloc (.cells #[.pointer (some ⟨1, 85, none⟩), .pointer (some va), .int .u64 150] 125) := ⟨_, rfl⟩
  rw [← hW]
  have hb : Hid (W.heap[w.heap.size]? = some (.cells #[.pointer (some ⟨1, 85, none⟩), .pointer (some va), .int .u64 150] 125 (0, 0))) := Lib.hid (by rw [hW]; exact get_new w _)
  have hbel : Hid (Below w.heap.size w W) := Lib.hid (by rw [hW]; exact (Below.refl _ _).alloc (Nat.le_refl _) _)
  clear hW
  generalize hg0 : w.heap.size = g0 at hb ⊢
  have hok' : Hid (e.ok W) := Lib.hid (Err.okBelow hbel.out HOK.out)
  have htb' : Hid (W.heap[tb]? = some (.cells #[old] 39 (0, 0))) := Lib.hid ((hbel.out.block _ (lt_of_get HTB.out)).trans HTB.out)
  have hva' : Hid (W.cell? va = some (.pointer (some ⟨tb, 0, none⟩))) := Lib.hid ((hbel.out.cell hsz0).trans HVA.out)
  have hg : Hid (w.heap.size = g0) := Lib.hid hg0
  clear hg0 HOK HTB HVA
  go_wp2
  go_loopg [0] (n + 1) (fun g s0 wr => wr = W ∧ ∃ cur : Err, s0 = cur.val ∧ Hid (cur.size ≤ g ∧ g ≤ n + 1 ∧ cur.ok W ∧ cur.errno = e.errno))
  case atStart => exact ⟨rfl, e, rfl, HE, Nat.le_refl _, hok', rfl⟩
  case round =>
    obtain ⟨rfl, cur, rfl, HC⟩ := hrel
    have c0 : wr.cell? ⟨g0, 0, none⟩ = some (.pointer (some ⟨1, 85, none⟩)) := (cell_of hb.out 0).trans rfl
    have c1 : wr.cell? ⟨g0, 1, none⟩ = some (.pointer (some va)) := (cell_of hb.out 1).trans rfl
    have c2 : wr.cell? ⟨g0, 2, none⟩ = some (.int .u64 150) := (cell_of hb.out 2).trans rfl
    cases cur with
    | no k =>
      have tO := typeOf39
      have a1 := assignable39_39
      simp only [Err.val]
      have vO := valueOf39
      have el := elemV85 va ⟨tb, 0, none⟩ wr hva'.out
      have st := set39 ⟨tb, 0, none⟩ ⟨wr.heap.size, 0, none⟩ k old (wr.alloc (.cells #[.int .i64 k] 39)) ((cell_of (get_new wr _) 0).trans rfl) ((cell_of (get_alloc htb'.out _) 0).trans rfl) (frozen_of (get_alloc htb'.out _) 0)
      go_wp2
      go_ret
      rw [← HC.out.2.2.2]
      exact ⟨rfl, _, hbel.out.alloc hbel.out.size _, rfl⟩
    | other g => exact absurd HC.out.2.2.1 (by simp [Err.ok])
    | fault g op at_ e1 =>
      have tO := typeOf86
      have a1 := assignable86_39
      simp only [Err.val]
      have l1 := lacks86_149
      have l2 := has86_152
      have mU := methodUnwrap
      obtain ⟨ty, vv, hv⟩ := e1.isIface
      have hF : Hid (wr.heap[g]? = some (.cells #[.string op, .int .i64 at_, .iface ty vv] 89 (0, 0))) := Lib.hid (by rw [← hv]; exact HC.out.2.2.1.1)
      have HV := Lib.hid hv
      clear hv
      obtain ⟨k1, hk1⟩ : ∃ k1, gk = k1 + 1 := ⟨gk - 1, by have := HC.out.1; simp only [Err.size] at this; omega⟩
      have HK := Lib.hid hk1
      clear hk1
      go_wp2_with (go_at_call 128; refine (unwrap_any g op at_ (.iface ty vv) _ hF.out).mono ?_; rintro ev w2 ⟨rfl, rfl⟩)
      go_roundg k1
      case rel => exact ⟨rfl, e1, HV.out.symm, by have h1_ := HC.out.1; have h2_ := HK.out; simp only [Err.size] at h1_; omega, by have := HC.out.2.1; have := HK.out; omega, HC.out.2.2.1.2, HC.out.2.2.2⟩
      case measure => have := HK.out; omega
    | join g ga a b => exact absurd HC.out.2.2.1 (by simp [Err.ok])
def Asfault (o : Option Nat) (tb : Nat) (w : World) (ev : Ending) (w' : World) : Prop :=
  ev = .returned (.bool o.isSome) ∧ match o with
  | some k => ∃ w1, Below w.heap.size w w1 ∧ w' = w1.setCell ⟨tb, 0, none⟩ (.pointer (some ⟨k, 0, none⟩))
  | none => Below w.heap.size w w'
set_option maxHeartbeats 8000000 in
set_option maxRecDepth 100000 in
theorem as_fault : ∀ (n : Nat) (e : Err), e.size ≤ n → ∀ (w : World) (tb : Nat) (old : Value) (va : Addr), e.ok w → w.heap[tb]? = some (.cells #[old] 86 (0, 0)) → w.cell? va = some (.pointer (some ⟨tb, 0, none⟩)) →
    Calls Tryd.prog 66 #[e.val, .iface 87 (.pointer (some ⟨tb, 0, none⟩)), .agg #[.pointer (some ⟨1, 87, none⟩), .pointer (some va), .int .u64 150], .iface 144 (.agg #[.pointer (some ⟨1, 86, none⟩)])] w fun ev w' => Asfault (e.first) tb w ev w' := by
  intro n
  induction n with
  | zero => intro e he; cases e <;> simp [Err.size] at he
  | succ n ih =>
  intro e he w tb old va hok htb hva
  have h76 := @run_callFunc_extern Tryd.prog 76 _ (ReflectliteType.typeOf) Tryd.func76 (by kernel_rfl) (by kernel_rfl) (by kernel_rfl) (by kernel_rfl)
  have h133 := @run_callFunc_extern Tryd.prog 133 _ (ReflectliteType.relation "AssignableTo" ReflectliteType.assignableTo) Tryd.func133 (by kernel_rfl) (by kernel_rfl) (by kernel_rfl) (by kernel_rfl)
  have h63 := @run_callFunc_extern Tryd.prog 63 _ (fun args => ReflectliteValue.unpack (args.getD 0 (.tuple #[]))) Tryd.func63 (by kernel_rfl) (by kernel_rfl) (by kernel_rfl) (by kernel_rfl)
  have h77 := @run_callFunc_extern Tryd.prog 77 _ (ReflectliteValue.method (ReflectliteValue.valueError "reflectlite.Value.Elem" 0) ReflectliteValue.elem) Tryd.func77 (by kernel_rfl) (by kernel_rfl) (by kernel_rfl) (by kernel_rfl)
  have h78 := @run_callFunc_extern Tryd.prog 78 _ (ReflectliteValue.set) Tryd.func78 (by kernel_rfl) (by kernel_rfl) (by kernel_rfl) (by kernel_rfl)
  have mA := methodAssignableTo
  have HOK := Lib.hid hok
  have HTB := Lib.hid htb
  have HVA := Lib.hid hva
  have HIH := Lib.hid ih
  have HE : Hid (e.size ≤ n + 1) := Lib.hid he
  have hsz0 : va.block < w.heap.size := by
    rcases Nat.lt_or_ge va.block w.heap.size with h | h
    · exact h
    · simp [World.cell?, Array.getElem?_eq_none h] at hva
  clear hok htb hva ih he
  go_enter Tryd.func66, Tryd.ntmps66
  go_wp2
  obtain ⟨W, hW⟩ : ∃ W, W = w.alloc (.cells #[.pointer (some ⟨1, 87, none⟩), .pointer (some va), .int .u64 150] 125) := ⟨_, rfl⟩
  rw [← hW]
  have hb : Hid (W.heap[w.heap.size]? = some (.cells #[.pointer (some ⟨1, 87, none⟩), .pointer (some va), .int .u64 150] 125 (0, 0))) := Lib.hid (by rw [hW]; exact get_new w _)
  have hbel : Hid (Below w.heap.size w W) := Lib.hid (by rw [hW]; exact (Below.refl _ _).alloc (Nat.le_refl _) _)
  clear hW
  generalize hg0 : w.heap.size = g0 at hb ⊢
  have hok' : Hid (e.ok W) := Lib.hid (Err.okBelow hbel.out HOK.out)
  have htb' : Hid (W.heap[tb]? = some (.cells #[old] 86 (0, 0))) := Lib.hid ((hbel.out.block _ (lt_of_get HTB.out)).trans HTB.out)
  have hva' : Hid (W.cell? va = some (.pointer (some ⟨tb, 0, none⟩))) := Lib.hid ((hbel.out.cell hsz0).trans HVA.out)
  have hg : Hid (w.heap.size = g0) := Lib.hid hg0
  clear hg0 HOK HTB HVA
  go_wp2
  go_loopg [0] (n + 1) (fun g s0 wr => wr = W ∧ ∃ cur : Err, s0 = cur.val ∧ Hid (cur.size ≤ g ∧ g ≤ n + 1 ∧ cur.ok W ∧ cur.first = e.first))
  case atStart => exact ⟨rfl, e, rfl, HE, Nat.le_refl _, hok', rfl⟩
  case round =>
    obtain ⟨rfl, cur, rfl, HC⟩ := hrel
    have c0 : wr.cell? ⟨g0, 0, none⟩ = some (.pointer (some ⟨1, 87, none⟩)) := (cell_of hb.out 0).trans rfl
    have c1 : wr.cell? ⟨g0, 1, none⟩ = some (.pointer (some va)) := (cell_of hb.out 1).trans rfl
    have c2 : wr.cell? ⟨g0, 2, none⟩ = some (.int .u64 150) := (cell_of hb.out 2).trans rfl
    cases cur with
    | no k =>
      have tO := typeOf39
      have a1 := assignable39_86
      simp only [Err.val]
      have l1 := lacks39_149
      have l2 := lacks39_152
      have l3 := lacks39_154
      go_wp2
      go_ret
      rw [← HC.out.2.2.2]
      exact ⟨rfl, hbel.out⟩
    | other g => exact absurd HC.out.2.2.1 (by simp [Err.ok])
    | fault g op at_ e1 =>
      have tO := typeOf86
      have a1 := assignable86_86
      simp only [Err.val]
      have vO := valueOf86
      have el := elemV87 va ⟨tb, 0, none⟩ wr hva'.out
      have st := set86 ⟨tb, 0, none⟩ ⟨wr.heap.size, 0, none⟩ ⟨g, 0, none⟩ old (wr.alloc (.cells #[.pointer (some ⟨g, 0, none⟩)] 86)) ((cell_of (get_new wr _) 0).trans rfl) ((cell_of (get_alloc htb'.out _) 0).trans rfl) (frozen_of (get_alloc htb'.out _) 0)
      go_wp2
      go_ret
      rw [← HC.out.2.2.2]
      exact ⟨rfl, _, hbel.out.alloc hbel.out.size _, rfl⟩
    | join g ga a b => exact absurd HC.out.2.2.1 (by simp [Err.ok])
end Go.Proofs.YtfkkefhijhjaaaaDoor.Er
