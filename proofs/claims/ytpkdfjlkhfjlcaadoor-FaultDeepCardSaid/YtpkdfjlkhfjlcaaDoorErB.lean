import Derived.Test.YtpkdfjlkhfjlcaaDoorErA
import Derived.Lib.Hide
import Derived.Deep.LoopGhost
import Derived.BigFrame
import Derived.Laws.IdiomRangeMap
/-! Errors as data; errors.as and errors.As at a concrete target. -/
namespace Go.Proofs.YtpkdfjlkhfjlcaaDoor.Er
open Go.RowKit Go.Extern.Stop Go.Stop Go.Extern
set_option linter.unusedVariables false
set_option linter.unusedSimpArgs false
inductive Err where
  | no (k : Int)
  | other (g : Nat)
  | fault (g : Nat) (op : ByteArray) (at_ : Int) (e : Err)
  | join (g ga : Nat) (a b : Err)
def Err.val : Err → Value
  | .no k => .iface 25 (.int .i64 k)
  | .other g => .iface 81 (.pointer (some ⟨g, 0, none⟩))
  | .fault g _ _ _ => .iface 38 (.pointer (some ⟨g, 0, none⟩))
  | .join g _ _ _ => .iface 85 (.pointer (some ⟨g, 0, none⟩))
def Err.ok (w : World) : Err → Prop
  | .no _ => True
  | .other g => ∃ s, w.heap[g]? = some (.cells #[.string s] 83 (0, 0))
  | .fault g op at_ e => w.heap[g]? = some (.cells #[.string op, .int .i64 at_, e.val] 42 (0, 0)) ∧ e.ok w
  | .join g ga a b => w.heap[g]? = some (.cells #[.slice (some ⟨ga, 0, none⟩) 2 2] 87 (0, 0)) ∧ w.heap[ga]? = some (.cells #[a.val, b.val] 23 (0, 0)) ∧ a.ok w ∧ b.ok w
def Err.size : Err → Nat
  | .no _ => 1
  | .other _ => 1
  | .fault _ _ _ e => e.size + 1
  | .join _ _ a b => a.size + b.size + 1
def Err.errno : Err → Option Int
  | .no k => some k
  | .other _ => none
  | .fault _ _ _ e => e.errno
  | .join _ _ a b => a.errno.or b.errno
def Err.first : Err → Option Nat
  | .no _ => none
  | .other _ => none
  | .fault g _ _ _ => some g
  | .join _ _ a b => a.first.or b.first
theorem lt_of_get {w : World} {g : Nat} {o : Obj} (h : w.heap[g]? = some o) : g < w.heap.size := by
  rcases Nat.lt_or_ge g w.heap.size with h1 | h1
  · exact h1
  · rw [Array.getElem?_eq_none h1] at h
    cases h
/-- What keeps an error: its own blocks stay. -/
theorem Err.keep {w w' : World} (h : ∀ (g : Nat) (cs : Array Value) (t : TypeId), (t = 83 ∨ t = 42 ∨ t = 87 ∨ t = 23) → w.heap[g]? = some (Obj.cells cs t (0, 0)) → w'.heap[g]? = some (Obj.cells cs t (0, 0))) : ∀ e : Err, e.ok w → e.ok w'
  | .no _, _ => trivial
  | .other g, ⟨s, hs⟩ => ⟨s, h g _ _ (by simp) hs⟩
  | .fault g op at_ e, ⟨h1, h2⟩ => ⟨h g _ _ (by simp) h1, e.keep h h2⟩
  | .join g ga a b, ⟨h1, h2, h3, h4⟩ => ⟨h g _ _ (by simp) h1, h ga _ _ (by simp) h2, a.keep h h3, b.keep h h4⟩
theorem Err.okBelow {w w' : World} (hb : Below w.heap.size w w') {e : Err} (h : e.ok w) : e.ok w' := e.keep (fun g cs t _ hg => (hb.block g (lt_of_get hg)).trans hg) h
theorem Err.isIface (e : Err) : ∃ ty v, e.val = .iface ty v := by cases e <;> exact ⟨_, _, rfl⟩
theorem cell_of {w : World} {g : Nat} {cs : Array Value} {t : TypeId} {f : Nat × Nat} (h : w.heap[g]? = some (.cells cs t f)) (j : Nat) : w.cell? ⟨g, j, none⟩ = cs[j]? := by simp [World.cell?, h]
theorem frozen_of {w : World} {g : Nat} {cs : Array Value} {t : TypeId} (h : w.heap[g]? = some (.cells cs t (0, 0))) (j : Nat) : w.frozen? ⟨g, j, none⟩ = false := by simp [World.frozen?, h]
theorem get_alloc {w : World} {g : Nat} {o : Obj} (h : w.heap[g]? = some o) (o' : Obj) : (w.alloc o').heap[g]? = some o := (Below.heap_alloc w o' g (lt_of_get h)).trans h
theorem get_new (w : World) (o : Obj) : (w.alloc o).heap[w.heap.size]? = some o := heap_alloc_new w o
theorem unwrap_any (g : Nat) (op : ByteArray) (at_ : Int) (v : Value) (w : World) (h : w.heap[g]? = some (.cells #[.string op, .int .i64 at_, v] 42 (0, 0))) :
    Calls Tryd.prog 24 #[.pointer (some ⟨g, 0, none⟩)] w fun e w' => e = .returned v ∧ w = w' := by
  have h2 : w.cell? ⟨g, 2, none⟩ = some v := (cell_of h 2).trans rfl
  go_enter Tryd.func24, Tryd.ntmps24
  go_wp2
  go_ret
  exact ⟨rfl, rfl⟩
theorem unwraps_any (g : Nat) (v : Value) (w : World) (h : w.heap[g]? = some (.cells #[v] 87 (0, 0))) :
    Calls Tryd.prog 117 #[.pointer (some ⟨g, 0, none⟩)] w fun e w' => e = .returned v ∧ w = w' := by
  have h2 : w.cell? ⟨g, 0, none⟩ = some v := (cell_of h 0).trans rfl
  go_enter Tryd.func117, Tryd.ntmps117
  go_wp2
  go_ret
  exact ⟨rfl, rfl⟩
def Aserrno (o : Option Int) (tb : Nat) (w : World) (ev : Ending) (w' : World) : Prop :=
  ev = .returned (.bool o.isSome) ∧ match o with
  | some k => ∃ w1, Below w.heap.size w w1 ∧ w' = w1.setCell ⟨tb, 0, none⟩ (.int .i64 k)
  | none => Below w.heap.size w w'
set_option maxHeartbeats 8000000 in
set_option maxRecDepth 100000 in
theorem as_errno : ∀ (n : Nat) (e : Err), e.size ≤ n → ∀ (w : World) (tb : Nat) (old : Value) (va : Addr), e.ok w → w.heap[tb]? = some (.cells #[old] 25 (0, 0)) → w.cell? va = some (.pointer (some ⟨tb, 0, none⟩)) →
    Calls Tryd.prog 39 #[e.val, .iface 61 (.pointer (some ⟨tb, 0, none⟩)), .agg #[.pointer (some ⟨5, 61, none⟩), .pointer (some va), .int .u64 150], .iface 93 (.agg #[.pointer (some ⟨5, 25, none⟩)])] w fun ev w' => Aserrno (e.errno) tb w ev w' := by
  intro n
  induction n with
  | zero => intro e he; cases e <;> simp [Err.size] at he
  | succ n ih =>
  intro e he w tb old va hok htb hva
  have h34 := @run_callFunc_extern Tryd.prog 34 _ (ReflectliteType.typeOf) Tryd.func34 (by kernel_rfl) (by kernel_rfl) (by kernel_rfl) (by kernel_rfl)
  have h119 := @run_callFunc_extern Tryd.prog 119 _ (ReflectliteType.relation "AssignableTo" ReflectliteType.assignableTo) Tryd.func119 (by kernel_rfl) (by kernel_rfl) (by kernel_rfl) (by kernel_rfl)
  have h36 := @run_callFunc_extern Tryd.prog 36 _ (fun args => ReflectliteValue.unpack (args.getD 0 (.tuple #[]))) Tryd.func36 (by kernel_rfl) (by kernel_rfl) (by kernel_rfl) (by kernel_rfl)
  have h44 := @run_callFunc_extern Tryd.prog 44 _ (ReflectliteValue.method (ReflectliteValue.valueError "reflectlite.Value.Elem" 0) ReflectliteValue.elem) Tryd.func44 (by kernel_rfl) (by kernel_rfl) (by kernel_rfl) (by kernel_rfl)
  have h45 := @run_callFunc_extern Tryd.prog 45 _ (ReflectliteValue.set) Tryd.func45 (by kernel_rfl) (by kernel_rfl) (by kernel_rfl) (by kernel_rfl)
  have mA := methodAssignableTo
  have HOK := Lib.hid hok
  have HTB := Lib.hid htb
  have HVA := Lib.hid hva
  have HIH := Lib.hid ih
  have HE : Hid (e.size ≤ n + 1) := Lib.hid he
  have hsz0 : va.block < w.heap.size := by
    rcases Nat.lt_or_ge va.block w.heap.size with h | h
    · exact h
    · simp [World.cell?, Array.getElem?_eq_none h] at hva
  clear hok htb hva ih he
  go_enter Tryd.func39, Tryd.ntmps39
  go_wp2
  obtain ⟨W, hW⟩ : ∃ W, W = w.alloc (.cells #[.pointer (some ⟨5, 61, none⟩), .pointer (some va), .int .u64 150] 72) := ⟨_, rfl⟩
  rw [← hW]
  have hb : Hid (W.heap[w.heap.size]? = some (.cells #[.pointer (some ⟨5, 61, none⟩), .pointer (some va), .int .u64 150] 72 (0, 0))) := Lib.hid (by rw [hW]; exact get_new w _)
  have hbel : Hid (Below w.heap.size w W) := Lib.hid (by rw [hW]; exact (Below.refl _ _).alloc (Nat.le_refl _) _)
  clear hW
  generalize hg0 : w.heap.size = g0 at hb ⊢
  have hok' : Hid (e.ok W) := Lib.hid (Err.okBelow hbel.out HOK.out)
  have htb' : Hid (W.heap[tb]? = some (.cells #[old] 25 (0, 0))) := Lib.hid ((hbel.out.block _ (lt_of_get HTB.out)).trans HTB.out)
  have hva' : Hid (W.cell? va = some (.pointer (some ⟨tb, 0, none⟩))) := Lib.hid ((hbel.out.cell hsz0).trans HVA.out)
  have hg : Hid (w.heap.size = g0) := Lib.hid hg0
  clear hg0 HOK HTB HVA
  go_wp2
  go_loopg [0] (n + 1) (fun g s0 wr => wr = W ∧ ∃ cur : Err, s0 = cur.val ∧ Hid (cur.size ≤ g ∧ g ≤ n + 1 ∧ cur.ok W ∧ cur.errno = e.errno))
  case atStart => exact ⟨rfl, e, rfl, HE, Nat.le_refl _, hok', rfl⟩
  case round =>
    obtain ⟨rfl, cur, rfl, HC⟩ := hrel
    have c0 : wr.cell? ⟨g0, 0, none⟩ = some (.pointer (some ⟨5, 61, none⟩)) := (cell_of hb.out 0).trans rfl
    have c1 : wr.cell? ⟨g0, 1, none⟩ = some (.pointer (some va)) := (cell_of hb.out 1).trans rfl
    have c2 : wr.cell? ⟨g0, 2, none⟩ = some (.int .u64 150) := (cell_of hb.out 2).trans rfl
    cases cur with
    | no k =>
      have tO := typeOf25
      have a1 := assignable25_25
      simp only [Err.val]
      have vO := valueOf25
      have el := elemV61 va ⟨tb, 0, none⟩ wr hva'.out
      have st := set25 ⟨tb, 0, none⟩ ⟨wr.heap.size, 0, none⟩ k old (wr.alloc (.cells #[.int .i64 k] 25)) ((cell_of (get_new wr _) 0).trans rfl) ((cell_of (get_alloc htb'.out _) 0).trans rfl) (frozen_of (get_alloc htb'.out _) 0)
      go_wp2
      go_ret
      rw [← HC.out.2.2.2]
      exact ⟨rfl, _, hbel.out.alloc hbel.out.size _, rfl⟩
    | other g =>
      have tO := typeOf81
      have a1 := assignable81_25
      simp only [Err.val]
      have l1 := lacks81_102
      have l2 := lacks81_79
      have l3 := lacks81_98
      go_wp2
      go_ret
      rw [← HC.out.2.2.2]
      exact ⟨rfl, hbel.out⟩
    | fault g op at_ e1 =>
      have tO := typeOf38
      have a1 := assignable38_25
      simp only [Err.val]
      have l1 := lacks38_102
      have l2 := has38_79
      have mU := methodUnwrap
      obtain ⟨ty, vv, hv⟩ := e1.isIface
      have hF : Hid (wr.heap[g]? = some (.cells #[.string op, .int .i64 at_, .iface ty vv] 42 (0, 0))) := Lib.hid (by rw [← hv]; exact HC.out.2.2.1.1)
      have HV := Lib.hid hv
      clear hv
      obtain ⟨k1, hk1⟩ : ∃ k1, gk = k1 + 1 := ⟨gk - 1, by have := HC.out.1; simp only [Err.size] at this; omega⟩
      have HK := Lib.hid hk1
      clear hk1
      go_wp2_with (go_at_call 24; refine (unwrap_any g op at_ (.iface ty vv) _ hF.out).mono ?_; rintro ev w2 ⟨rfl, rfl⟩)
      go_roundg k1
      case rel => exact ⟨rfl, e1, HV.out.symm, by have h1_ := HC.out.1; have h2_ := HK.out; simp only [Err.size] at h1_; omega, by have := HC.out.2.1; have := HK.out; omega, HC.out.2.2.1.2, HC.out.2.2.2⟩
      case measure => have := HK.out; omega
    | join g ga a b =>
      have tO := typeOf85
      have a1 := assignable85_25
      simp only [Err.val]
      have l1 := lacks85_102
      have l2 := lacks85_79
      have l3 := has85_98
      have mU := methodUnwraps
      have hJ := Lib.hid HC.out.2.2.1
      obtain ⟨tya, vva, hva2⟩ := a.isIface
      obtain ⟨tyb, vvb, hvb2⟩ := b.isIface
      have d0 : wr.cell? ⟨ga, 0, none⟩ = some (.iface tya vva) := hva2 ▸ (cell_of hJ.out.2.1 0).trans rfl
      have d1 : wr.cell? ⟨ga, 1, none⟩ = some (.iface tyb vvb) := hvb2 ▸ (cell_of hJ.out.2.1 1).trans rfl
      have IA : Hid (Calls Tryd.prog 39 #[.iface tya vva, .iface 61 (.pointer (some ⟨tb, 0, none⟩)), .agg #[.pointer (some ⟨5, 61, none⟩), .pointer (some va), .int .u64 150], .iface 93 (.agg #[.pointer (some ⟨5, 25, none⟩)])] wr fun ev w' => Aserrno a.errno tb wr ev w') := Lib.hid (by rw [← hva2]; exact HIH.out a (by have := HC.out.1; have := HC.out.2.1; simp only [Err.size] at *; omega) wr tb old va hJ.out.2.2.1 htb'.out hva'.out)
      have HN : Hid (a.errno.or b.errno = e.errno) := Lib.hid HC.out.2.2.2
      have HVB := Lib.hid hvb2
      clear hva2 hvb2
      have HB2 : Hid (b.size ≤ n) := Lib.hid (by have := HC.out.1; have := HC.out.2.1; simp only [Err.size] at *; omega)
      go_wp2_with (go_at_call 117; refine (unwraps_any g _ _ hJ.out.1).mono ?_; rintro ev w2 ⟨rfl, rfl⟩)
      refine wp_loop_rounds 3 ?_
      rw [rounds_succ]
      rcases hra : a.errno with _ | k
      · have IA2 : Hid (Calls Tryd.prog 39 #[.iface tya vva, .iface 61 (.pointer (some ⟨tb, 0, none⟩)), .agg #[.pointer (some ⟨5, 61, none⟩), .pointer (some va), .int .u64 150], .iface 93 (.agg #[.pointer (some ⟨5, 25, none⟩)])] wr fun ev w' => ev = .returned (.bool false) ∧ Below wr.heap.size wr w') := Lib.hid (by have h_ := IA.out; rw [hra] at h_; exact h_)
        have HN2 : Hid (b.errno = e.errno) := Lib.hid (by have h_ := HN.out; rw [hra] at h_; simpa using h_)
        clear hra
        go_wp2_with (go_at_call 39; refine IA2.out.mono ?_; rintro ev w2 ⟨rfl, hb2⟩)
        have HBL : Hid (Below w.heap.size w w2) := Lib.hid (hbel.out.trans (hb2.mono hbel.out.size))
        have KB : Hid (Below wr.heap.size wr w2) := Lib.hid hb2
        have e0 : w2.cell? ⟨g0, 0, none⟩ = some (.pointer (some ⟨5, 61, none⟩)) := (cell_of ((KB.out.block _ (lt_of_get hb.out)).trans hb.out) 0).trans rfl
        have e1 : w2.cell? ⟨g0, 1, none⟩ = some (.pointer (some va)) := (cell_of ((KB.out.block _ (lt_of_get hb.out)).trans hb.out) 1).trans rfl
        have e2 : w2.cell? ⟨g0, 2, none⟩ = some (.int .u64 150) := (cell_of ((KB.out.block _ (lt_of_get hb.out)).trans hb.out) 2).trans rfl
        have e3 : w2.cell? ⟨ga, 1, none⟩ = some (.iface tyb vvb) := HVB.out ▸ (cell_of ((KB.out.block _ (lt_of_get hJ.out.2.1)).trans hJ.out.2.1) 1).trans rfl
        have IB : Hid (Calls Tryd.prog 39 #[.iface tyb vvb, .iface 61 (.pointer (some ⟨tb, 0, none⟩)), .agg #[.pointer (some ⟨5, 61, none⟩), .pointer (some va), .int .u64 150], .iface 93 (.agg #[.pointer (some ⟨5, 25, none⟩)])] w2 fun ev w' => Aserrno b.errno tb w2 ev w') := Lib.hid (by rw [← HVB.out]; exact HIH.out b HB2.out w2 tb old va (Err.okBelow KB.out hJ.out.2.2.2) ((KB.out.block _ (lt_of_get htb'.out)).trans htb'.out) ((KB.out.cell (by have := hbel.out.size; omega)).trans hva'.out))
        clear c0 c1 c2 d0 d1 hb2
        rw [rounds_succ]
        rcases hrb : b.errno with _ | k
        · have IB2 : Hid (Calls Tryd.prog 39 #[.iface tyb vvb, .iface 61 (.pointer (some ⟨tb, 0, none⟩)), .agg #[.pointer (some ⟨5, 61, none⟩), .pointer (some va), .int .u64 150], .iface 93 (.agg #[.pointer (some ⟨5, 25, none⟩)])] w2 fun ev w' => ev = .returned (.bool false) ∧ Below w2.heap.size w2 w') := Lib.hid (by have h_ := IB.out; rw [hrb] at h_; exact h_)
          have HN3 : Hid (none = e.errno) := Lib.hid (by rw [← HN2.out, hrb])
          clear hrb
          go_wp2_with (go_at_call 39; refine IB2.out.mono ?_; rintro ev w4 ⟨rfl, hb4⟩)
          rw [rounds_succ]
          go_wp2
          go_ret
          rw [← HN3.out]
          exact ⟨rfl, HBL.out.trans (hb4.mono HBL.out.size)⟩
        · have IB2 : Hid (Calls Tryd.prog 39 #[.iface tyb vvb, .iface 61 (.pointer (some ⟨tb, 0, none⟩)), .agg #[.pointer (some ⟨5, 61, none⟩), .pointer (some va), .int .u64 150], .iface 93 (.agg #[.pointer (some ⟨5, 25, none⟩)])] w2 fun ev w' => ev = .returned (.bool true) ∧ ∃ w1, Below w2.heap.size w2 w1 ∧ w' = w1.setCell ⟨tb, 0, none⟩ (.int .i64 k)) := Lib.hid (by have h_ := IB.out; rw [hrb] at h_; exact h_)
          have HN3 : Hid (some k = e.errno) := Lib.hid (by rw [← HN2.out, hrb])
          clear hrb
          go_wp2_with (go_at_call 39; refine IB2.out.mono ?_; rintro ev w4 ⟨rfl, w3, hb3, rfl⟩)
          go_ret
          rw [← HN3.out]
          exact ⟨rfl, w3, HBL.out.trans (hb3.mono HBL.out.size), rfl⟩
      · have IA2 : Hid (Calls Tryd.prog 39 #[.iface tya vva, .iface 61 (.pointer (some ⟨tb, 0, none⟩)), .agg #[.pointer (some ⟨5, 61, none⟩), .pointer (some va), .int .u64 150], .iface 93 (.agg #[.pointer (some ⟨5, 25, none⟩)])] wr fun ev w' => ev = .returned (.bool true) ∧ ∃ w1, Below wr.heap.size wr w1 ∧ w' = w1.setCell ⟨tb, 0, none⟩ (.int .i64 k)) := Lib.hid (by have h_ := IA.out; rw [hra] at h_; exact h_)
        have HN2 : Hid (some k = e.errno) := Lib.hid (by have h_ := HN.out; rw [hra] at h_; simpa using h_)
        clear hra
        go_wp2_with (go_at_call 39; refine IA2.out.mono ?_; rintro ev w2 ⟨rfl, w3, hb3, rfl⟩)
        go_ret
        rw [← HN2.out]
        exact ⟨rfl, w3, hbel.out.trans (hb3.mono hbel.out.size), rfl⟩
def Asfault (o : Option Nat) (tb : Nat) (w : World) (ev : Ending) (w' : World) : Prop :=
  ev = .returned (.bool o.isSome) ∧ match o with
  | some k => ∃ w1, Below w.heap.size w w1 ∧ w' = w1.setCell ⟨tb, 0, none⟩ (.pointer (some ⟨k, 0, none⟩))
  | none => Below w.heap.size w w'
set_option maxHeartbeats 8000000 in
set_option maxRecDepth 100000 in
theorem as_fault : ∀ (n : Nat) (e : Err), e.size ≤ n → ∀ (w : World) (tb : Nat) (old : Value) (va : Addr), e.ok w → w.heap[tb]? = some (.cells #[old] 38 (0, 0)) → w.cell? va = some (.pointer (some ⟨tb, 0, none⟩)) →
    Calls Tryd.prog 39 #[e.val, .iface 40 (.pointer (some ⟨tb, 0, none⟩)), .agg #[.pointer (some ⟨5, 40, none⟩), .pointer (some va), .int .u64 150], .iface 93 (.agg #[.pointer (some ⟨5, 38, none⟩)])] w fun ev w' => Asfault (e.first) tb w ev w' := by
  intro n
  induction n with
  | zero => intro e he; cases e <;> simp [Err.size] at he
  | succ n ih =>
  intro e he w tb old va hok htb hva
  have h34 := @run_callFunc_extern Tryd.prog 34 _ (ReflectliteType.typeOf) Tryd.func34 (by kernel_rfl) (by kernel_rfl) (by kernel_rfl) (by kernel_rfl)
  have h119 := @run_callFunc_extern Tryd.prog 119 _ (ReflectliteType.relation "AssignableTo" ReflectliteType.assignableTo) Tryd.func119 (by kernel_rfl) (by kernel_rfl) (by kernel_rfl) (by kernel_rfl)
  have h36 := @run_callFunc_extern Tryd.prog 36 _ (fun args => ReflectliteValue.unpack (args.getD 0 (.tuple #[]))) Tryd.func36 (by kernel_rfl) (by kernel_rfl) (by kernel_rfl) (by kernel_rfl)
  have h44 := @run_callFunc_extern Tryd.prog 44 _ (ReflectliteValue.method (ReflectliteValue.valueError "reflectlite.Value.Elem" 0) ReflectliteValue.elem) Tryd.func44 (by kernel_rfl) (by kernel_rfl) (by kernel_rfl) (by kernel_rfl)
  have h45 := @run_callFunc_extern Tryd.prog 45 _ (ReflectliteValue.set) Tryd.func45 (by kernel_rfl) (by kernel_rfl) (by kernel_rfl) (by kernel_rfl)
  have mA := methodAssignableTo
  have HOK := Lib.hid hok
  have HTB := Lib.hid htb
  have HVA := Lib.hid hva
  have HIH := Lib.hid ih
  have HE : Hid (e.size ≤ n + 1) := Lib.hid he
  have hsz0 : va.block < w.heap.size := by
    rcases Nat.lt_or_ge va.block w.heap.size with h | h
    · exact h
    · simp [World.cell?, Array.getElem?_eq_none h] at hva
  clear hok htb hva ih he
  go_enter Tryd.func39, Tryd.ntmps39
  go_wp2
  obtain ⟨W, hW⟩ : ∃ W, W = w.alloc (.cells #[.pointer (some ⟨5, 40, none⟩), .pointer (some va), .int .u64 150] 72) := ⟨_, rfl⟩
  rw [← hW]
  have hb : Hid (W.heap[w.heap.size]? = some (.cells #[.pointer (some ⟨5, 40, none⟩), .pointer (some va), .int .u64 150] 72 (0, 0))) := Lib.hid (by rw [hW]; exact get_new w _)
  have hbel : Hid (Below w.heap.size w W) := Lib.hid (by rw [hW]; exact (Below.refl _ _).alloc (Nat.le_refl _) _)
  clear hW
  generalize hg0 : w.heap.size = g0 at hb ⊢
  have hok' : Hid (e.ok W) := Lib.hid (Err.okBelow hbel.out HOK.out)
  have htb' : Hid (W.heap[tb]? = some (.cells #[old] 38 (0, 0))) := Lib.hid ((hbel.out.block _ (lt_of_get HTB.out)).trans HTB.out)
  have hva' : Hid (W.cell? va = some (.pointer (some ⟨tb, 0, none⟩))) := Lib.hid ((hbel.out.cell hsz0).trans HVA.out)
  have hg : Hid (w.heap.size = g0) := Lib.hid hg0
  clear hg0 HOK HTB HVA
  go_wp2
  go_loopg [0] (n + 1) (fun g s0 wr => wr = W ∧ ∃ cur : Err, s0 = cur.val ∧ Hid (cur.size ≤ g ∧ g ≤ n + 1 ∧ cur.ok W ∧ cur.first = e.first))
  case atStart => exact ⟨rfl, e, rfl, HE, Nat.le_refl _, hok', rfl⟩
  case round =>
    obtain ⟨rfl, cur, rfl, HC⟩ := hrel
    have c0 : wr.cell? ⟨g0, 0, none⟩ = some (.pointer (some ⟨5, 40, none⟩)) := (cell_of hb.out 0).trans rfl
    have c1 : wr.cell? ⟨g0, 1, none⟩ = some (.pointer (some va)) := (cell_of hb.out 1).trans rfl
    have c2 : wr.cell? ⟨g0, 2, none⟩ = some (.int .u64 150) := (cell_of hb.out 2).trans rfl
    cases cur with
    | no k =>
      have tO := typeOf25
      have a1 := assignable25_38
      simp only [Err.val]
      have l1 := lacks25_102
      have l2 := lacks25_79
      have l3 := lacks25_98
      go_wp2
      go_ret
      rw [← HC.out.2.2.2]
      exact ⟨rfl, hbel.out⟩
    | other g =>
      have tO := typeOf81
      have a1 := assignable81_38
      simp only [Err.val]
      have l1 := lacks81_102
      have l2 := lacks81_79
      have l3 := lacks81_98
      go_wp2
      go_ret
      rw [← HC.out.2.2.2]
      exact ⟨rfl, hbel.out⟩
    | fault g op at_ e1 =>
      have tO := typeOf38
      have a1 := assignable38_38
      simp only [Err.val]
      have vO := valueOf38
      have el := elemV40 va ⟨tb, 0, none⟩ wr hva'.out
      have st := set38 ⟨tb, 0, none⟩ ⟨wr.heap.size, 0, none⟩ ⟨g, 0, none⟩ old (wr.alloc (.cells #[.pointer (some ⟨g, 0, none⟩)] 38)) ((cell_of (get_new wr _) 0).trans rfl) ((cell_of (get_alloc htb'.out _) 0).trans rfl) (frozen_of (get_alloc htb'.out _) 0)
      go_wp2
      go_ret
      rw [← HC.out.2.2.2]
      exact ⟨rfl, _, hbel.out.alloc hbel.out.size _, rfl⟩
    | join g ga a b =>
      have tO := typeOf85
      have a1 := assignable85_38
      simp only [Err.val]
      have l1 := lacks85_102
      have l2 := lacks85_79
      have l3 := has85_98
      have mU := methodUnwraps
      have hJ := Lib.hid HC.out.2.2.1
      obtain ⟨tya, vva, hva2⟩ := a.isIface
      obtain ⟨tyb, vvb, hvb2⟩ := b.isIface
      have d0 : wr.cell? ⟨ga, 0, none⟩ = some (.iface tya vva) := hva2 ▸ (cell_of hJ.out.2.1 0).trans rfl
      have d1 : wr.cell? ⟨ga, 1, none⟩ = some (.iface tyb vvb) := hvb2 ▸ (cell_of hJ.out.2.1 1).trans rfl
      have IA : Hid (Calls Tryd.prog 39 #[.iface tya vva, .iface 40 (.pointer (some ⟨tb, 0, none⟩)), .agg #[.pointer (some ⟨5, 40, none⟩), .pointer (some va), .int .u64 150], .iface 93 (.agg #[.pointer (some ⟨5, 38, none⟩)])] wr fun ev w' => Asfault a.first tb wr ev w') := Lib.hid (by rw [← hva2]; exact HIH.out a (by have := HC.out.1; have := HC.out.2.1; simp only [Err.size] at *; omega) wr tb old va hJ.out.2.2.1 htb'.out hva'.out)
      have HN : Hid (a.first.or b.first = e.first) := Lib.hid HC.out.2.2.2
      have HVB := Lib.hid hvb2
      clear hva2 hvb2
      have HB2 : Hid (b.size ≤ n) := Lib.hid (by have := HC.out.1; have := HC.out.2.1; simp only [Err.size] at *; omega)
      go_wp2_with (go_at_call 117; refine (unwraps_any g _ _ hJ.out.1).mono ?_; rintro ev w2 ⟨rfl, rfl⟩)
      refine wp_loop_rounds 3 ?_
      rw [rounds_succ]
      rcases hra : a.first with _ | k
      · have IA2 : Hid (Calls Tryd.prog 39 #[.iface tya vva, .iface 40 (.pointer (some ⟨tb, 0, none⟩)), .agg #[.pointer (some ⟨5, 40, none⟩), .pointer (some va), .int .u64 150], .iface 93 (.agg #[.pointer (some ⟨5, 38, none⟩)])] wr fun ev w' => ev = .returned (.bool false) ∧ Below wr.heap.size wr w') := Lib.hid (by have h_ := IA.out; rw [hra] at h_; exact h_)
        have HN2 : Hid (b.first = e.first) := Lib.hid (by have h_ := HN.out; rw [hra] at h_; simpa using h_)
        clear hra
        go_wp2_with (go_at_call 39; refine IA2.out.mono ?_; rintro ev w2 ⟨rfl, hb2⟩)
        have HBL : Hid (Below w.heap.size w w2) := Lib.hid (hbel.out.trans (hb2.mono hbel.out.size))
        have KB : Hid (Below wr.heap.size wr w2) := Lib.hid hb2
        have e0 : w2.cell? ⟨g0, 0, none⟩ = some (.pointer (some ⟨5, 40, none⟩)) := (cell_of ((KB.out.block _ (lt_of_get hb.out)).trans hb.out) 0).trans rfl
        have e1 : w2.cell? ⟨g0, 1, none⟩ = some (.pointer (some va)) := (cell_of ((KB.out.block _ (lt_of_get hb.out)).trans hb.out) 1).trans rfl
        have e2 : w2.cell? ⟨g0, 2, none⟩ = some (.int .u64 150) := (cell_of ((KB.out.block _ (lt_of_get hb.out)).trans hb.out) 2).trans rfl
        have e3 : w2.cell? ⟨ga, 1, none⟩ = some (.iface tyb vvb) := HVB.out ▸ (cell_of ((KB.out.block _ (lt_of_get hJ.out.2.1)).trans hJ.out.2.1) 1).trans rfl
        have IB : Hid (Calls Tryd.prog 39 #[.iface tyb vvb, .iface 40 (.pointer (some ⟨tb, 0, none⟩)), .agg #[.pointer (some ⟨5, 40, none⟩), .pointer (some va), .int .u64 150], .iface 93 (.agg #[.pointer (some ⟨5, 38, none⟩)])] w2 fun ev w' => Asfault b.first tb w2 ev w') := Lib.hid (by rw [← HVB.out]; exact HIH.out b HB2.out w2 tb old va (Err.okBelow KB.out hJ.out.2.2.2) ((KB.out.block _ (lt_of_get htb'.out)).trans htb'.out) ((KB.out.cell (by have := hbel.out.size; omega)).trans hva'.out))
        clear c0 c1 c2 d0 d1 hb2
        rw [rounds_succ]
        rcases hrb : b.first with _ | k
        · have IB2 : Hid (Calls Tryd.prog 39 #[.iface tyb vvb, .iface 40 (.pointer (some ⟨tb, 0, none⟩)), .agg #[.pointer (some ⟨5, 40, none⟩), .pointer (some va), .int .u64 150], .iface 93 (.agg #[.pointer (some ⟨5, 38, none⟩)])] w2 fun ev w' => ev = .returned (.bool false) ∧ Below w2.heap.size w2 w') := Lib.hid (by have h_ := IB.out; rw [hrb] at h_; exact h_)
          have HN3 : Hid (none = e.first) := Lib.hid (by rw [← HN2.out, hrb])
          clear hrb
          go_wp2_with (go_at_call 39; refine IB2.out.mono ?_; rintro ev w4 ⟨rfl, hb4⟩)
          rw [rounds_succ]
          go_wp2
          go_ret
          rw [← HN3.out]
          exact ⟨rfl, HBL.out.trans (hb4.mono HBL.out.size)⟩
        · have IB2 : Hid (Calls Tryd.prog 39 #[.iface tyb vvb, .iface 40 (.pointer (some ⟨tb, 0, none⟩)), .agg #[.pointer (some ⟨5, 40, none⟩), .pointer (some va), .int .u64 150], .iface 93 (.agg #[.pointer (some ⟨5, 38, none⟩)])] w2 fun ev w' => ev = .returned (.bool true) ∧ ∃ w1, Below w2.heap.size w2 w1 ∧ w' = w1.setCell ⟨tb, 0, none⟩ (.pointer (some ⟨k, 0, none⟩))) := Lib.hid (by have h_ := IB.out; rw [hrb] at h_; exact h_)
          have HN3 : Hid (some k = e.first) := Lib.hid (by rw [← HN2.out, hrb])
          clear hrb
          go_wp2_with (go_at_call 39; refine IB2.out.mono ?_; rintro ev w4 ⟨rfl, w3, hb3, rfl⟩)
          go_ret
          rw [← HN3.out]
          exact ⟨rfl, w3, HBL.out.trans (hb3.mono HBL.out.size), rfl⟩
      · have IA2 : Hid (Calls Tryd.prog 39 #[.iface tya vva, .iface 40 (.pointer (some ⟨tb, 0, none⟩)), .agg #[.pointer (some ⟨5, 40, none⟩), .pointer (some va), .int .u64 150], .iface 93 (.agg #[.pointer (some ⟨5, 38, none⟩)])] wr fun ev w' => ev = .returned (.bool true) ∧ ∃ w1, Below wr.heap.size wr w1 ∧ w' = w1.setCell ⟨tb, 0, none⟩ (.pointer (some ⟨k, 0, none⟩))) := Lib.hid (by have h_ := IA.out; rw [hra] at h_; exact h_)
        have HN2 : Hid (some k = e.first) := Lib.hid (by have h_ := HN.out; rw [hra] at h_; simpa using h_)
        clear hra
        go_wp2_with (go_at_call 39; refine IA2.out.mono ?_; rintro ev w2 ⟨rfl, w3, hb3, rfl⟩)
        go_ret
        rw [← HN2.out]
        exact ⟨rfl, w3, hbel.out.trans (hb3.mono hbel.out.size), rfl⟩
end Go.Proofs.YtpkdfjlkhfjlcaaDoor.Er
