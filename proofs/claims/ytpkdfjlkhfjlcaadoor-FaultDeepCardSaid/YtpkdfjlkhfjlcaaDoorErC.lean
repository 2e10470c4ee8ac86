import Derived.Test.YtpkdfjlkhfjlcaaDoorErB
import Derived.Deep.DeepCutAuto
/-! errors.As, fault.New, Kind, Place: what they give of an error. -/
namespace Go.Proofs.YtpkdfjlkhfjlcaaDoor.Er
open Go.RowKit Go.Extern.Stop Go.Stop Go.Extern
set_option linter.unusedVariables false
set_option linter.unusedSimpArgs false
/-- What the law's row lists: the variable errors.errorType. -/
def Typ (w : World) : Prop := w.cell? ⟨0, 0, none⟩ = some (.iface 93 (.agg #[.pointer (some ⟨5, 23, none⟩)]))
theorem Typ.lt {w : World} (h : Typ w) : 0 < w.heap.size := by
  rcases Nat.lt_or_ge 0 w.heap.size with h1 | h1
  · exact h1
  · simp [Typ, World.cell?, Array.getElem?_eq_none h1] at h
theorem Typ.below {w w' : World} (hb : Below w.heap.size w w') (h : Typ w) : Typ w' := (hb.cell (p := ⟨0, 0, none⟩) h.lt).trans h
theorem As_nil_errno (t : Value) (w : World) : Calls Tryd.prog 21 #[.nilIface, t] w fun ev w' => ev = .returned (.bool false) ∧ w = w' := by
  go_enter Tryd.func21, Tryd.ntmps21
  go_wp2
  go_ret
  exact ⟨rfl, rfl⟩
theorem Aserrno.of {o} {tb : Nat} {w W : World} {ev : Ending} {w' : World} (hb : Below w.heap.size w W) (h : Aserrno o tb W ev w') : Aserrno o tb w ev w' := by
  unfold Aserrno at h ⊢
  cases o with
  | none => exact ⟨h.1, hb.trans (h.2.mono hb.size)⟩
  | some k => obtain ⟨h1, w1, h2, h3⟩ := h; exact ⟨h1, w1, hb.trans (h2.mono hb.size), h3⟩
set_option maxHeartbeats 8000000 in
set_option maxRecDepth 100000 in
theorem As_errno (e : Err) (w : World) (tb : Nat) (old : Value) (ht : Typ w) (hok : e.ok w) (htb : w.heap[tb]? = some (.cells #[old] 25 (0, 0))) :
    Calls Tryd.prog 21 #[e.val, .iface 61 (.pointer (some ⟨tb, 0, none⟩))] w fun ev w' => Aserrno (e.errno) tb w ev w' := by
  have h36 := @run_callFunc_extern Tryd.prog 36 _ (fun args => ReflectliteValue.unpack (args.getD 0 (.tuple #[]))) Tryd.func36 (by kernel_rfl) (by kernel_rfl) (by kernel_rfl) (by kernel_rfl)
  have h37 := @run_callFunc_extern Tryd.prog 37 _ (ReflectliteValue.methodAny (ReflectliteValue.valueError "reflectlite.Value.Type" 0) (fun t _ _ _ => ReflectliteType.toType t)) Tryd.func37 (by kernel_rfl) (by kernel_rfl) (by kernel_rfl) (by kernel_rfl)
  have h38 := @run_callFunc_extern Tryd.prog 38 _ (ReflectliteValue.method (ReflectliteValue.valueError "reflectlite.Value.IsNil" 0) ReflectliteValue.isNil) Tryd.func38 (by kernel_rfl) (by kernel_rfl) (by kernel_rfl) (by kernel_rfl)
  have h108 := @run_callFunc_extern Tryd.prog 108 _ (ReflectliteType.abiMethod fun t => do pure (.int .u8 (← Rtype.kind t))) Tryd.func108 (by kernel_rfl) (by kernel_rfl) (by kernel_rfl) (by kernel_rfl)
  have h121 := @run_callFunc_extern Tryd.prog 121 _ (ReflectliteType.method ReflectliteType.elem) Tryd.func121 (by kernel_rfl) (by kernel_rfl) (by kernel_rfl) (by kernel_rfl)
  have h122 := @run_callFunc_extern Tryd.prog 122 _ (ReflectliteType.relation "Implements" ReflectliteType.implements_) Tryd.func122 (by kernel_rfl) (by kernel_rfl) (by kernel_rfl) (by kernel_rfl)
  have f1 := valueOf61
  have f2 := type61
  have mK := methodKind
  have mE := methodElem
  have mI := methodImplements
  have k1 := kind61
  have k2 := kind25
  have e1 := elem61
  have i1 := implements25
  have HOK := Lib.hid hok
  have HTB := Lib.hid htb
  have HT := Lib.hid ht
  obtain ⟨ty, vv, hv⟩ := e.isIface
  have HV := Lib.hid hv
  rw [hv]
  clear hok htb hv ht
  go_enter Tryd.func21, Tryd.ntmps21
  go_upto_region 6 with (fail)
  obtain ⟨g0, hg0⟩ : ∃ g0, g0 = w.heap.size := ⟨_, rfl⟩
  have HG := Lib.hid hg0
  obtain ⟨W, hW⟩ : ∃ W, W = (w.alloc (.cells #[.pointer (some ⟨tb, 0, none⟩)] 61)).alloc (.cells #[.pointer (some ⟨5, 61, none⟩), .pointer (some ⟨w.heap.size, 0, none⟩), .int .u64 150] 72) := ⟨_, rfl⟩
  rw [← hW]
  have h0 : Hid (W.heap[g0]? = some (.cells #[.pointer (some ⟨tb, 0, none⟩)] 61 (0, 0))) := Lib.hid (by rw [hW, hg0]; exact get_alloc (get_new w _) _)
  have h1 : Hid (W.heap[g0 + 1]? = some (.cells #[.pointer (some ⟨5, 61, none⟩), .pointer (some ⟨g0, 0, none⟩), .int .u64 150] 72 (0, 0))) := Lib.hid (by
    have h_ := get_new (w.alloc (.cells #[.pointer (some ⟨tb, 0, none⟩)] 61)) (.cells #[.pointer (some ⟨5, 61, none⟩), .pointer (some ⟨w.heap.size, 0, none⟩), .int .u64 150] 72)
    rw [hW, hg0]
    rw [show (w.alloc (.cells #[.pointer (some ⟨tb, 0, none⟩)] 61)).heap.size = w.heap.size + 1 from by simp] at h_
    exact h_)
  have hbel : Hid (Below w.heap.size w W) := Lib.hid (by rw [hW]; exact ((Below.refl _ _).alloc (Nat.le_refl _) _).alloc (by simp) _)
  clear hW
  rw [← hg0]
  clear hg0
  have c0 : W.cell? ⟨g0 + 1, 0, none⟩ = some (.pointer (some ⟨5, 61, none⟩)) := (cell_of h1.out 0).trans rfl
  have c1 : W.cell? ⟨g0 + 1, 1, none⟩ = some (.pointer (some ⟨g0, 0, none⟩)) := (cell_of h1.out 1).trans rfl
  have c2 : W.cell? ⟨g0 + 1, 2, none⟩ = some (.int .u64 150) := (cell_of h1.out 2).trans rfl
  have n8 := isNil61 ⟨g0, 0, none⟩ ⟨tb, 0, none⟩ W ((cell_of h0.out 0).trans rfl)
  have hT : W.cell? ⟨0, 0, none⟩ = some (.iface 93 (.agg #[.pointer (some ⟨5, 23, none⟩)])) := Typ.below hbel.out HT.out
  go_wp2_with (go_at_call 39; rw [← HV.out]; refine (as_errno _ e (Nat.le_refl _) _ tb old ⟨g0, 0, none⟩ (Err.okBelow hbel.out HOK.out) ((hbel.out.block _ (lt_of_get HTB.out)).trans HTB.out) ((cell_of h0.out 0).trans rfl)).mono ?_; rintro ev w2 ⟨rfl, hp⟩)
  go_ret
  exact Aserrno.of hbel.out ⟨rfl, hp⟩
theorem As_nil_fault (t : Value) (w : World) : Calls Tryd.prog 21 #[.nilIface, t] w fun ev w' => ev = .returned (.bool false) ∧ w = w' := by
  go_enter Tryd.func21, Tryd.ntmps21
  go_wp2
  go_ret
  exact ⟨rfl, rfl⟩
theorem Asfault.of {o} {tb : Nat} {w W : World} {ev : Ending} {w' : World} (hb : Below w.heap.size w W) (h : Asfault o tb W ev w') : Asfault o tb w ev w' := by
  unfold Asfault at h ⊢
  cases o with
  | none => exact ⟨h.1, hb.trans (h.2.mono hb.size)⟩
  | some k => obtain ⟨h1, w1, h2, h3⟩ := h; exact ⟨h1, w1, hb.trans (h2.mono hb.size), h3⟩
set_option maxHeartbeats 8000000 in
set_option maxRecDepth 100000 in
theorem As_fault (e : Err) (w : World) (tb : Nat) (old : Value) (ht : Typ w) (hok : e.ok w) (htb : w.heap[tb]? = some (.cells #[old] 38 (0, 0))) :
    Calls Tryd.prog 21 #[e.val, .iface 40 (.pointer (some ⟨tb, 0, none⟩))] w fun ev w' => Asfault (e.first) tb w ev w' := by
  have h36 := @run_callFunc_extern Tryd.prog 36 _ (fun args => ReflectliteValue.unpack (args.getD 0 (.tuple #[]))) Tryd.func36 (by kernel_rfl) (by kernel_rfl) (by kernel_rfl) (by kernel_rfl)
  have h37 := @run_callFunc_extern Tryd.prog 37 _ (ReflectliteValue.methodAny (ReflectliteValue.valueError "reflectlite.Value.Type" 0) (fun t _ _ _ => ReflectliteType.toType t)) Tryd.func37 (by kernel_rfl) (by kernel_rfl) (by kernel_rfl) (by kernel_rfl)
  have h38 := @run_callFunc_extern Tryd.prog 38 _ (ReflectliteValue.method (ReflectliteValue.valueError "reflectlite.Value.IsNil" 0) ReflectliteValue.isNil) Tryd.func38 (by kernel_rfl) (by kernel_rfl) (by kernel_rfl) (by kernel_rfl)
  have h108 := @run_callFunc_extern Tryd.prog 108 _ (ReflectliteType.abiMethod fun t => do pure (.int .u8 (← Rtype.kind t))) Tryd.func108 (by kernel_rfl) (by kernel_rfl) (by kernel_rfl) (by kernel_rfl)
  have h121 := @run_callFunc_extern Tryd.prog 121 _ (ReflectliteType.method ReflectliteType.elem) Tryd.func121 (by kernel_rfl) (by kernel_rfl) (by kernel_rfl) (by kernel_rfl)
  have h122 := @run_callFunc_extern Tryd.prog 122 _ (ReflectliteType.relation "Implements" ReflectliteType.implements_) Tryd.func122 (by kernel_rfl) (by kernel_rfl) (by kernel_rfl) (by kernel_rfl)
  have f1 := valueOf40
  have f2 := type40
  have mK := methodKind
  have mE := methodElem
  have mI := methodImplements
  have k1 := kind40
  have k2 := kind38
  have e1 := elem40
  have i1 := implements38
  have HOK := Lib.hid hok
  have HTB := Lib.hid htb
  have HT := Lib.hid ht
  obtain ⟨ty, vv, hv⟩ := e.isIface
  have HV := Lib.hid hv
  rw [hv]
  clear hok htb hv ht
  go_enter Tryd.func21, Tryd.ntmps21
  go_upto_region 6 with (fail)
  obtain ⟨g0, hg0⟩ : ∃ g0, g0 = w.heap.size := ⟨_, rfl⟩
  have HG := Lib.hid hg0
  obtain ⟨W, hW⟩ : ∃ W, W = (w.alloc (.cells #[.pointer (some ⟨tb, 0, none⟩)] 40)).alloc (.cells #[.pointer (some ⟨5, 40, none⟩), .pointer (some ⟨w.heap.size, 0, none⟩), .int .u64 150] 72) := ⟨_, rfl⟩
  rw [← hW]
  have h0 : Hid (W.heap[g0]? = some (.cells #[.pointer (some ⟨tb, 0, none⟩)] 40 (0, 0))) := Lib.hid (by rw [hW, hg0]; exact get_alloc (get_new w _) _)
  have h1 : Hid (W.heap[g0 + 1]? = some (.cells #[.pointer (some ⟨5, 40, none⟩), .pointer (some ⟨g0, 0, none⟩), .int .u64 150] 72 (0, 0))) := Lib.hid (by
    have h_ := get_new (w.alloc (.cells #[.pointer (some ⟨tb, 0, none⟩)] 40)) (.cells #[.pointer (some ⟨5, 40, none⟩), .pointer (some ⟨w.heap.size, 0, none⟩), .int .u64 150] 72)
    rw [hW, hg0]
    rw [show (w.alloc (.cells #[.pointer (some ⟨tb, 0, none⟩)] 40)).heap.size = w.heap.size + 1 from by simp] at h_
    exact h_)
  have hbel : Hid (Below w.heap.size w W) := Lib.hid (by rw [hW]; exact ((Below.refl _ _).alloc (Nat.le_refl _) _).alloc (by simp) _)
  clear hW
  rw [← hg0]
  clear hg0
  have c0 : W.cell? ⟨g0 + 1, 0, none⟩ = some (.pointer (some ⟨5, 40, none⟩)) := (cell_of h1.out 0).trans rfl
  have c1 : W.cell? ⟨g0 + 1, 1, none⟩ = some (.pointer (some ⟨g0, 0, none⟩)) := (cell_of h1.out 1).trans rfl
  have c2 : W.cell? ⟨g0 + 1, 2, none⟩ = some (.int .u64 150) := (cell_of h1.out 2).trans rfl
  have n8 := isNil40 ⟨g0, 0, none⟩ ⟨tb, 0, none⟩ W ((cell_of h0.out 0).trans rfl)
  have hT : W.cell? ⟨0, 0, none⟩ = some (.iface 93 (.agg #[.pointer (some ⟨5, 23, none⟩)])) := Typ.below hbel.out HT.out
  go_wp2_with (go_at_call 39; rw [← HV.out]; refine (as_fault _ e (Nat.le_refl _) _ tb old ⟨g0, 0, none⟩ (Err.okBelow hbel.out HOK.out) ((hbel.out.block _ (lt_of_get HTB.out)).trans HTB.out) ((cell_of h0.out 0).trans rfl)).mono ?_; rintro ev w2 ⟨rfl, hp⟩)
  go_ret
  exact Asfault.of hbel.out ⟨rfl, hp⟩
end Go.Proofs.YtpkdfjlkhfjlcaaDoor.Er
