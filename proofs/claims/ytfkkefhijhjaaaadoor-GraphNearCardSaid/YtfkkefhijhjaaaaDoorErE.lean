import Derived.Test.YtfkkefhijhjaaaaDoorErC
import Derived.Test.YtfkkefhijhjaaaaDoorWWords
import Derived.Deep.DeepCutAuto
import Derived.Maps.AppendAt
/-! What fault's functions give of an error. -/
namespace Go.Proofs.YtfkkefhijhjaaaaDoor.Er
open Go.RowKit Go.Extern.Stop Go.Stop Go.Extern Go.Proofs.YtfkkefhijhjaaaaDoorW.PrintWords
set_option linter.unusedVariables false
set_option linter.unusedSimpArgs false
theorem new_any (op : ByteArray) (a : Int) (e : Err) (w : World) : Calls Tryd.prog 54 #[.string op, .int .i64 a, e.val] w fun ev w' => ev = .returned (Err.fault w.heap.size op a e).val ∧ w' = w.alloc (.cells #[.string op, .int .i64 a, e.val] 89) := by
  obtain ⟨ty, v, hv⟩ := e.isIface
  rw [hv]
  clear hv
  go_enter Tryd.func54, Tryd.ntmps54
  go_wp2
  go_ret
  exact ⟨rfl, rfl⟩
theorem new_nil (op : ByteArray) (a : Int) (w : World) : Calls Tryd.prog 54 #[.string op, .int .i64 a, .nilIface] w fun ev w' => ev = .returned .nilIface ∧ w = w' := by
  go_enter Tryd.func54, Tryd.ntmps54
  go_wp2
  go_ret
  exact ⟨rfl, rfl⟩
theorem new_ok (op : ByteArray) (a : Int) (e : Err) (w : World) (h : e.ok w) : (Err.fault w.heap.size op a e).ok (w.alloc (.cells #[.string op, .int .i64 a, e.val] 89)) :=
  ⟨get_new w _, Err.okBelow ((Below.refl _ _).alloc (Nat.le_refl _) _) h⟩
/-- The outermost fault of a chain. -/
def Err.firstF : Err → Option (Nat × ByteArray × Int × Err)
  | .no _ => none
  | .other _ => none
  | .fault g op a e => some (g, op, a, e)
  | .join _ _ a b => a.firstF.or b.firstF
theorem Err.first_firstF : ∀ e : Err, e.first = e.firstF.map (·.1)
  | .no _ => rfl
  | .other _ => rfl
  | .fault g op a e => rfl
  | .join _ _ a b => by
    simp only [Err.first, Err.firstF, a.first_firstF, b.first_firstF]
    cases a.firstF <;> simp
theorem Err.firstF_ok : ∀ {e : Err} {w : World} {g : Nat} {op : ByteArray} {a : Int} {e1 : Err}, e.ok w → e.firstF = some (g, op, a, e1) → (Err.fault g op a e1).ok w ∧ e1.size < e.size
  | .fault g op a e, _, _, _, _, _, h, h2 => by
    simp only [Err.firstF, Option.some.injEq, Prod.mk.injEq] at h2
    obtain ⟨rfl, rfl, rfl, rfl⟩ := h2
    exact ⟨h, by simp [Err.size]⟩
  | .join _ _ a b, w, g, op, x, e1, h, h2 => by
    simp only [Err.firstF] at h2
    exact h.elim
def Err.place (e : Err) : Int := match e.firstF with
  | some (_, _, a, _) => a
  | none => -1
theorem set_get {w : World} {g : Nat} {old v : Value} {t : TypeId} (h : w.heap[g]? = some (.cells #[old] t (0, 0))) : (w.setCell ⟨g, 0, none⟩ v).heap[g]? = some (.cells #[v] t (0, 0)) := by
  simpa using blk_set h 0 v
theorem set_far {w : World} {g b : Nat} {v : Value} (h : b ≠ g) : (w.setCell ⟨g, 0, none⟩ v).heap[b]? = w.heap[b]? := Below.heap_setCell _ _ _ _ h
/-- A store into a variable's block keeps an error whose blocks lie below it. -/
theorem ok_set {w w1 : World} {tb : Nat} {v : Value} {e : Err} (h : e.ok w) (hle : w.heap.size ≤ tb) (hb : Below w.heap.size w w1) : e.ok (w1.setCell ⟨tb, 0, none⟩ v) :=
  Err.okBelow (hb.setCell hle _) h
set_option maxHeartbeats 2000000 in
theorem kind_any (e : Err) (w : World) (ht : Typ w) (hok : e.ok w) : Calls Tryd.prog 15 #[e.val] w fun ev w' => ev = .returned (.int .i64 (e.errno.getD 0)) ∧ Below w.heap.size w w' := by
  obtain ⟨W, hW⟩ : ∃ W, W = w.alloc (.cells #[.int .i64 0] 39) := ⟨_, rfl⟩
  have hbel : Below w.heap.size w W := by rw [hW]; exact (Below.refl _ _).alloc (Nat.le_refl _) _
  have htb : W.heap[w.heap.size]? = some (.cells #[.int .i64 0] 39 (0, 0)) := by rw [hW]; exact get_new w _
  have HA := Lib.hid (As_errno e W w.heap.size (.int .i64 0) (ht.below hbel) (Err.okBelow hbel hok) htb)
  have HB := Lib.hid hbel
  have HT := Lib.hid htb
  obtain ⟨ty, v, hv⟩ := e.isIface
  rw [hv] at HA ⊢
  clear hv hbel htb ht hok
  cases he : e.errno with
  | none =>
    rw [he] at HA
    clear he
    go_enter Tryd.func15, Tryd.ntmps15
    go_upto_region 2 with (fail)
    rw [← hW]
    clear hW
    go_wp2_with (go_at_call 39; refine HA.out.mono ?_; rintro ev w2 ⟨rfl, hb2⟩)
    go_ret
    exact ⟨rfl, HB.out.trans (hb2.mono HB.out.size)⟩
  | some k =>
    rw [he] at HA
    clear he
    go_enter Tryd.func15, Tryd.ntmps15
    go_upto_region 2 with (fail)
    rw [← hW]
    clear hW
    go_wp2_with (go_at_call 39; refine HA.out.mono ?_; rintro ev w2 ⟨rfl, w1, hb1, rfl⟩; have hg := (cell_of (set_get (v := .int .i64 k) ((hb1.block _ (lt_of_get HT.out)).trans HT.out)) 0).trans rfl; have H1 := Lib.hid hb1; clear hb1)
    go_ret
    exact ⟨rfl, (HB.out.trans (H1.out.mono HB.out.size)).setCell (Nat.le_refl _) _⟩
theorem kind_nil (w : World) : Calls Tryd.prog 15 #[.nilIface] w fun ev w' => ev = .returned (.int .i64 0) ∧ Below w.heap.size w w' := by
  go_enter Tryd.func15, Tryd.ntmps15
  go_wp2_with (go_at_call 39; refine (As_nil_errno _ _).mono ?_; rintro ev w2 ⟨rfl, rfl⟩)
  go_ret
  exact ⟨rfl, (Below.refl _ _).alloc (Nat.le_refl _) _⟩
set_option maxHeartbeats 2000000 in
theorem place_any (e : Err) (w : World) (ht : Typ w) (hok : e.ok w) : Calls Tryd.prog 16 #[e.val] w fun ev w' => ev = .returned (.int .i64 e.place) ∧ Below w.heap.size w w' := by
  obtain ⟨W, hW⟩ : ∃ W, W = w.alloc (.cells #[.pointer none] 86) := ⟨_, rfl⟩
  have hbel : Below w.heap.size w W := by rw [hW]; exact (Below.refl _ _).alloc (Nat.le_refl _) _
  have htb : W.heap[w.heap.size]? = some (.cells #[.pointer none] 86 (0, 0)) := by rw [hW]; exact get_new w _
  have HA := Lib.hid (As_fault e W w.heap.size (.pointer none) (ht.below hbel) (Err.okBelow hbel hok) htb)
  have HB := Lib.hid hbel
  have HT := Lib.hid htb
  have HO := Lib.hid hok
  obtain ⟨ty, v, hv⟩ := e.isIface
  rw [hv] at HA ⊢
  clear hv hbel htb ht hok
  rw [Err.first_firstF] at HA
  unfold Err.place
  cases he : e.firstF with
  | none =>
    rw [he] at HA
    clear he
    go_enter Tryd.func16, Tryd.ntmps16
    go_upto_region 2 with (fail)
    rw [← hW]
    clear hW
    go_wp2_with (go_at_call 39; refine HA.out.mono ?_; rintro ev w2 ⟨rfl, hb2⟩)
    go_ret
    exact ⟨rfl, HB.out.trans (hb2.mono HB.out.size)⟩
  | some z =>
    obtain ⟨g, op, a, e1⟩ := z
    rw [he] at HA
    have HF := Lib.hid (Err.firstF_ok HO.out he).1.1
    clear he
    go_enter Tryd.func16, Tryd.ntmps16
    go_upto_region 2 with (fail)
    rw [← hW]
    clear hW
    go_wp2_with (go_at_call 39; refine HA.out.mono ?_; rintro ev w2 ⟨rfl, w1, hb1, rfl⟩; have hg := (cell_of (set_get (v := .pointer (some ⟨g, 0, none⟩)) ((hb1.block _ (lt_of_get HT.out)).trans HT.out)) 0).trans rfl; have H1 := Lib.hid hb1; have hq := (cell_of ((set_far (v := .pointer (some ⟨g, 0, none⟩)) (Nat.ne_of_lt (lt_of_get HF.out))).trans (((HB.out.trans (hb1.mono HB.out.size)).block _ (lt_of_get HF.out)).trans HF.out)) 1).trans rfl; clear hb1)
    go_ret
    exact ⟨rfl, (HB.out.trans (H1.out.mono HB.out.size)).setCell (Nat.le_refl _) _⟩
theorem place_nil (w : World) : Calls Tryd.prog 16 #[.nilIface] w fun ev w' => ev = .returned (.int .i64 (-1)) ∧ Below w.heap.size w w' := by
  go_enter Tryd.func16, Tryd.ntmps16
  go_wp2_with (go_at_call 39; refine (As_nil_fault _ _).mono ?_; rintro ev w2 ⟨rfl, rfl⟩)
  go_ret
  exact ⟨rfl, (Below.refl _ _).alloc (Nat.le_refl _) _⟩
end Go.Proofs.YtfkkefhijhjaaaaDoor.Er
