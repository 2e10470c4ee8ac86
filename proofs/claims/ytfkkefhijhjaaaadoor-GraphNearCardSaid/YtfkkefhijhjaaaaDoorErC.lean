import Derived.Test.YtfkkefhijhjaaaaDoorErB
import Derived.Deep.DeepCutAuto
/-! errors.As, fault.New, Kind, Place: what they give of an error. -/
namespace Go.Proofs.YtfkkefhijhjaaaaDoor.Er
open Go.RowKit Go.Extern.Stop Go.Stop Go.Extern
set_option linter.unusedVariables false
set_option linter.unusedSimpArgs false
/-- What the law's row lists: the variable errors.errorType. -/
def Typ (w : World) : Prop := w.cell? ⟨0, 0, none⟩ = some (.iface 144 (.agg #[.pointer (some ⟨1, 29, none⟩)]))
theorem Typ.lt {w : World} (h : Typ w) : 0 < w.heap.size := by
  rcases Nat.lt_or_ge 0 w.heap.size with h1 | h1
  · exact h1
  · simp [Typ, World.cell?, Array.getElem?_eq_none h1] at h
theorem Typ.below {w w' : World} (hb : Below w.heap.size w w') (h : Typ w) : Typ w' := (hb.cell (p := ⟨0, 0, none⟩) h.lt).trans h
theorem As_nil_errno (t : Value) (w : World) : Calls Tryd.prog 39 #[.nilIface, t] w fun ev w' => ev = .returned (.bool false) ∧ w = w' := by
  go_enter Tryd.func39, Tryd.ntmps39
  go_wp2
  go_ret
  exact ⟨rfl, rfl⟩
theorem Aserrno.of {o} {tb : Nat} {w W : World} {ev : Ending} {w' : World} (hb : Below w.heap.size w W) (h : Aserrno o tb W ev w') : Aserrno o tb w ev w' := by
  unfold Aserrno at h ⊢
  cases o with
  | none => exact ⟨h.1, hb.trans (h.2.mono hb.size)⟩
  | some k => obtain ⟨h1, w1, h2, h3⟩ := h; exact ⟨h1, w1, hb.trans (h2.mono hb.size), h3⟩
set_option maxHeartbeats 8000000 in
set_option maxRecDepth 100000 in
theorem As_errno (e : Err) (w : World) (tb : Nat) (old : Value) (ht : Typ w) (hok : e.ok w) (htb : w.heap[tb]? = some (.cells #[old] 39 (0, 0))) :
    Calls Tryd.prog 39 #[e.val, .iface 85 (.pointer (some ⟨tb, 0, none⟩))] w fun ev w' => Aserrno (e.errno) tb w ev w' := by
  have h63 := @run_callFunc_extern Tryd.prog 63 _ (fun args => ReflectliteValue.unpack (args.getD 0 (.tuple #[]))) Tryd.func63 (by kernel_rfl) (by kernel_rfl) (by kernel_rfl) (by kernel_rfl)
  have h64 := @run_callFunc_extern Tryd.prog 64 _ (ReflectliteValue.methodAny (ReflectliteValue.valueError "reflectlite.Value.Type" 0) (fun t _ _ _ => ReflectliteType.toType t)) Tryd.func64 (by kernel_rfl) (by kernel_rfl) (by kernel_rfl) (by kernel_rfl)
  have h65 := @run_callFunc_extern Tryd.prog 65 _ (ReflectliteValue.method (ReflectliteValue.valueError "reflectlite.Value.IsNil" 0) ReflectliteValue.isNil) Tryd.func65 (by kernel_rfl) (by kernel_rfl) (by kernel_rfl) (by kernel_rfl)
  have h123 := @run_callFunc_extern Tryd.prog 123 _ (ReflectliteType.abiMethod fun t => do pure (.int .u8 (← Rtype.kind t))) Tryd.func123 (by kernel_rfl) (by kernel_rfl) (by kernel_rfl) (by kernel_rfl)
  have h135 := @run_callFunc_extern Tryd.prog 135 _ (ReflectliteType.method ReflectliteType.elem) Tryd.func135 (by kernel_rfl) (by kernel_rfl) (by kernel_rfl) (by kernel_rfl)
  have h136 := @run_callFunc_extern Tryd.prog 136 _ (ReflectliteType.relation "Implements" ReflectliteType.implements_) Tryd.func136 (by kernel_rfl) (by kernel_rfl) (by kernel_rfl) (by kernel_rfl)
  have f1 := valueOf85
  have f2 := type85
  have mK := methodKind
  have mE := methodElem
  have mI := methodImplements
  have k1 := kind85
  have k2 := kind39
  have e1 := elem85
  have i1 := implements39
  have HOK := Lib.hid hok
  have HTB := Lib.hid htb
  have HT := Lib.hid ht
  obtain ⟨ty, vv, hv⟩ := e.isIface
  have HV := Lib.hid hv
  rw [hv]
  clear hok htb hv ht
  go_enter Tryd.func39, Tryd.ntmps39
  go_upto_region 6 with (fail)
  obtain ⟨g0, hg0⟩ : ∃ g0, g0 = w.heap.size := ⟨_, rfl⟩
  have HG := Lib.hid hg0
  obtain ⟨W, hW⟩ : ∃ W, W = (w.alloc (.cells #[.pointer (some ⟨tb, 0, none⟩)] 85)).alloc (.cells #[.pointer (some ⟨1, 85, none⟩), .pointer (some ⟨w.heap.size, 0, none⟩), .int .u64 150] 125) := ⟨_, rfl⟩
  rw [← hW]
  have h0 : Hid (W.heap[g0]? = some (.cells #[.pointer (some ⟨tb, 0, none⟩)] 85 (0, 0))) := Lib.hid (by rw [hW, hg0]; exact get_alloc (get_new w _) _)
  have h1 : Hid (W.heap[g0 + 1]? = some (.cells #[.pointer (some ⟨1, 85, none⟩), .pointer (some ⟨g0, 0, none⟩), .int .u64 150] 125 (0, 0))) := Lib.hid (by
    have h_ := get_new (w.alloc (.cells #[.pointer (some ⟨tb, 0, none⟩)] 85)) (.cells #[.pointer (some ⟨1, 85, none⟩), .pointer (some ⟨w.heap.size, 0, none⟩), .int .u64 150] 125)
    rw [hW, hg0]
    rw [show (w.alloc (.cells #[.pointer (some ⟨tb, 0, none⟩)] 85)).heap.size = w.heap.size + 1 from by simp] at h_
    exact h_)
  have hbel : Hid (Below w.heap.size w W) := Lib.hid (by rw [hW]; exact ((Below.refl _ _).alloc (Nat.le_refl _) _).alloc (by simp) _)
  clear hW
  rw [← hg0]
  clear hg0
  have c0 : W.cell? ⟨g0 + 1, 0, none⟩ = some (.pointer (some ⟨1, 85, none⟩)) := (cell_of h1.out 0).trans rfl
  have c1 : W.cell? ⟨g0 + 1, 1, none⟩ = some (.pointer (some ⟨g0, 0, none⟩)) := (cell_of h1.out 1).trans rfl
  have c2 : W.cell? ⟨g0 + 1, 2, none⟩ = some (.int .u64 150) := (cell_of h1.out 2).trans rfl
  have n8 := isNil85 ⟨g0, 0, none⟩ ⟨tb, 0, none⟩ W ((cell_of h0.out 0).trans rfl)
  have hT : W.cell? ⟨0, 0, none⟩ = some (.iface 144 (.agg #[.pointer (some ⟨1, 29, none⟩)])) := Typ.below hbel.out HT.out
  go_wp2_with (go_at_call 66; rw [← HV.out]; refine (as_errno _ e (Nat.le_refl _) _ tb old ⟨g0, 0, none⟩ (Err.okBelow hbel.out HOK.out) ((hbel.out.block _ (lt_of_get HTB.out)).trans HTB.out) ((cell_of h0.out 0).trans rfl)).mono ?_; rintro ev w2 ⟨rfl, hp⟩)
  go_ret
  exact Aserrno.of hbel.out ⟨rfl, hp⟩
theorem As_nil_fault (t : Value) (w : World) : Calls Tryd.prog 39 #[.nilIface, t] w fun ev w' => ev = .returned (.bool false) ∧ w = w' := by
  go_enter Tryd.func39, Tryd.ntmps39
  go_wp2
  go_ret
  exact ⟨rfl, rfl⟩
theorem Asfault.of {o} {tb : Nat} {w W : World} {ev : Ending} {w' : World} (hb : Below w.heap.size w W) (h : Asfault o tb W ev w') : Asfault o tb w ev w' := by
  unfold Asfault at h ⊢
  cases o with
  | none => exact ⟨h.1, hb.trans (h.2.mono hb.size)⟩
  | some k => obtain ⟨h1, w1, h2, h3⟩ := h; exact ⟨h1, w1, hb.trans (h2.mono hb.size), h3⟩
set_option maxHeartbeats 8000000 in
set_option maxRecDepth 100000 in
theorem As_fault (e : Err) (w : World) (tb : Nat) (old : Value) (ht : Typ w) (hok : e.ok w) (htb : w.heap[tb]? = some (.cells #[old] 86 (0, 0))) :
    Calls Tryd.prog 39 #[e.val, .iface 87 (.pointer (some ⟨tb, 0, none⟩))] w fun ev w' => Asfault (e.first) tb w ev w' := by
  have h63 := @run_callFunc_extern Tryd.prog 63 _ (fun args => ReflectliteValue.unpack (args.getD 0 (.tuple #[]))) Tryd.func63 (by kernel_rfl) (by kernel_rfl) (by kernel_rfl) (by kernel_rfl)
  have h64 := @run_callFunc_extern Tryd.prog 64 _ (ReflectliteValue.methodAny (ReflectliteValue.valueError "reflectlite.Value.Type" 0) (fun t _ _ _ => ReflectliteType.toType t)) Tryd.func64 (by kernel_rfl) (by kernel_rfl) (by kernel_rfl) (by kernel_rfl)
  have h65 := @run_callFunc_extern Tryd.prog 65 _ (ReflectliteValue.method (ReflectliteValue.valueError "reflectlite.Value.IsNil" 0) ReflectliteValue.isNil) Tryd.func65 (by kernel_rfl) (by kernel_rfl) (by kernel_rfl) (by kernel_rfl)
  have h123 := @run_callFunc_extern Tryd.prog 123 _ (ReflectliteType.abiMethod fun t => do pure (.int .u8 (← Rtype.kind t))) Tryd.func123 (by kernel_rfl) (by kernel_rfl) (by kernel_rfl) (by kernel_rfl)
  have h135 := @run_callFunc_extern Tryd.prog 135 _ (ReflectliteType.method ReflectliteType.elem) Tryd.func135 (by kernel_rfl) (by kernel_rfl) (by kernel_rfl) (by kernel_rfl)
  have h136 := @run_callFunc_extern Tryd.prog 136 _ (ReflectliteType.relation "Implements" ReflectliteType.implements_) Tryd.func136 (by kernel_rfl) (by kernel_rfl) (by kernel_rfl) (by kernel_rfl)
  have f1 := valueOf87
  have f2 := type87
  have mK := methodKind
  have mE := methodElem
  have mI := methodImplements
  have k1 := kind87
  have k2 := kind86
  have e1 := elem87
  have i1 := implements86
  have HOK := Lib.hid hok
  have HTB := Lib.hid htb
  have HT := Lib.hid ht
  obtain ⟨ty, vv, hv⟩ := e.isIface
  have HV := Lib.hid hv
  rw [hv]
  clear hok htb hv ht
  go_enter Tryd.func39, Tryd.ntmps39
  go_upto_region 6 with (fail)
  obtain ⟨g0, hg0⟩ : ∃ g0, g0 = w.heap.size := ⟨_, rfl⟩
  have HG := Lib.hid hg0
  obtain ⟨W, hW⟩ : ∃ W, W = (w.alloc (.cells #[.pointer (some ⟨tb, 0, none⟩)] 87)).alloc (.cells #[.pointer (some ⟨1, 87, none⟩), .pointer (some ⟨w.heap.size, 0, none⟩), .int .u64 150] 125) := ⟨_, rfl⟩
  rw [← hW]
  have h0 : Hid (W.heap[g0]? = some (.cells #[.pointer (some ⟨tb, 0, none⟩)] 87 (0, 0))) := Lib.hid (by rw [hW, hg0]; exact get_alloc (get_new w _) _)
  have h1 : Hid (W.heap[g0 + 1]? = some (.cells #[.pointer (some ⟨1, 87, none⟩), .pointer (some ⟨g0, 0, none⟩), .int .u64 150] 125 (0, 0))) := Lib.hid (by
    have h_ := get_new (w.alloc (.cells #[.pointer (some ⟨tb, 0, none⟩)] 87)) (.cells #[.pointer (some ⟨1, 87, none⟩), .pointer (some ⟨w.heap.size, 0, none⟩), .int .u64 150] 125)
    rw [hW, hg0]
    rw [show (w.alloc (.cells #[.pointer (some ⟨tb, 0, none⟩)] 87)).heap.size = w.heap.size + 1 from by simp] at h_
    exact h_)
  have hbel : Hid (Below w.heap.size w W) := Lib.hid (by rw [hW]; exact ((Below.refl _ _).alloc (Nat.le_refl _) _).alloc (by simp) _)
  clear hW
  rw [← hg0]
  clear hg0
  have c0 : W.cell? ⟨g0 + 1, 0, none⟩ = some (.pointer (some ⟨1, 87, none⟩)) := (cell_of h1.out 0).trans rfl
  have c1 : W.cell? ⟨g0 + 1, 1, none⟩ = some (.pointer (some ⟨g0, 0, none⟩)) := (cell_of h1.out 1).trans rfl
  have c2 : W.cell? ⟨g0 + 1, 2, none⟩ = some (.int .u64 150) := (cell_of h1.out 2).trans rfl
  have n8 := isNil87 ⟨g0, 0, none⟩ ⟨tb, 0, none⟩ W ((cell_of h0.out 0).trans rfl)
  have hT : W.cell? ⟨0, 0, none⟩ = some (.iface 144 (.agg #[.pointer (some ⟨1, 29, none⟩)])) := Typ.below hbel.out HT.out
  go_wp2_with (go_at_call 66; rw [← HV.out]; refine (as_fault _ e (Nat.le_refl _) _ tb old ⟨g0, 0, none⟩ (Err.okBelow hbel.out HOK.out) ((hbel.out.block _ (lt_of_get HTB.out)).trans HTB.out) ((cell_of h0.out 0).trans rfl)).mono ?_; rintro ev w2 ⟨rfl, hp⟩)
  go_ret
  exact Asfault.of hbel.out ⟨rfl, hp⟩
end Go.Proofs.YtfkkefhijhjaaaaDoor.Er
