import Derived.Test.YtfabnapjbgamaaaGreatDoorErB
/-! errors.Is of an error: is one of the chain the target? -/
namespace Go.Proofs.YtfabnapjbgamaaaGreatDoor.Er
open Go.RowKit Go.Extern.Stop Go.Stop Go.Extern
set_option linter.unusedVariables false
set_option linter.unusedSimpArgs false
def Err.same : Err → Err → Bool
  | .no k, .no j => decide (k = j)
  | .other g, .other h => decide (g = h)
  | .fault g _ _ _, .fault h _ _ _ => decide (g = h)
  | .join g _ _ _, .join h _ _ _ => decide (g = h)
  | _, _ => false
def Err.is : Err → Err → Bool
  | .no k, t => (Err.no k).same t
  | .other g, t => (Err.other g).same t
  | .fault g op at_ e, t => (Err.fault g op at_ e).same t || e.is t
  | .join g ga a b, t => (Err.join g ga a b).same t || (a.is t || b.is t)
theorem cmpinfo73 : ∃ i j, Tryz.prog.info? 73 = some i ∧ i.comparable = true ∧ Tryz.prog.info? 77 = some j ∧ j.size ≠ 0 := by
  have h1 : (Tryz.prog.info? 73).map (fun i => i.comparable) = some true := by kernel_rfl
  have h2 : (Tryz.prog.info? 77).map (fun i => i.size == 0) = some false := by kernel_rfl
  obtain ⟨i, hi, hi2⟩ := Option.map_eq_some_iff.1 h1
  obtain ⟨j, hj, hj2⟩ := Option.map_eq_some_iff.1 h2
  exact ⟨i, j, hi, hi2, hj, by simpa using hj2⟩
theorem eql_int (k j : Int) (w : World) : (binOp .eql 27 (.iface 32 (.int .i64 k)) (.iface 32 (.int .i64 j))).run Tryz.prog w = .ok (.bool (decide (k = j))) w := by
  have h1 : (Tryz.prog.info? 32).map (fun i => i.comparable) = some true := by kernel_rfl
  obtain ⟨i, hi, hc⟩ := Option.map_eq_some_iff.1 h1
  have h : ∀ d : Nat, (Op.equalIn (d + 2) 27 (.iface 32 (.int .i64 k)) (.iface 32 (.int .i64 j))).run Tryz.prog w = .ok (decide (k = j)) w := fun d => by
    simp [Op.equalIn, run_underlying Tryz.underlying27, run_underlying Tryz.underlying32, typeInfo, hi, hc]
    rw [Bool.eq_iff_iff]
    simp
  simp only [binOp]
  simp [Op.equal, Op.maxDepth, h 9998]
theorem eql_ptr73 {g h : Nat} {ca cb : Array Value} {ta tb : TypeId} {w : World} (ha : w.heap[g]? = some (.cells ca ta (0, 0))) (hb : w.heap[h]? = some (.cells cb tb (0, 0))) :
    (binOp .eql 27 (.iface 73 (.pointer (some ⟨g, 0, none⟩))) (.iface 73 (.pointer (some ⟨h, 0, none⟩)))).run Tryz.prog w = .ok (.bool (decide (g = h))) w := by
  obtain ⟨i, j, h1, h2, h3, h4⟩ := cmpinfo73
  by_cases e : g = h
  · subst e
    rw [run_eql_iface_ptr_same w ⟨g, 0, none⟩ Tryz.underlying27 Tryz.underlying73 h1 h2 h3]
    simp
  · rw [run_eql_iface_ptr_other w Tryz.underlying27 Tryz.underlying73 h1 h2 h3 h4 (fun h_ => e (by cases h_; rfl)) ha hb]
    simp [e]
theorem ok_block : ∀ {e : Err} {w : World}, e.ok w → (∃ k, e = .no k) ∨ ∃ g cs t, w.heap[g]? = some (.cells cs t (0, 0)) ∧ ((e = .other g) ∨ (∃ op a e1, e = .fault g op a e1) ∨ ∃ ga a b, e = .join g ga a b)
  | .no k, _, _ => .inl ⟨k, rfl⟩
  | .other g, _, h => h.elim
  | .fault g op a e1, _, h => .inr ⟨g, _, _, h.1, .inr (.inl ⟨_, _, _, rfl⟩)⟩
  | .join g ga a b, _, h => h.elim
theorem eql_same {a b : Err} {w : World} (ha : a.ok w) (hb : b.ok w) : (binOp .eql 27 a.val b.val).run Tryz.prog w = .ok (.bool (a.same b)) w := by
  cases a with
  | no k =>
    cases b with
    | no j => exact eql_int k j w
    | other h => exact hb.elim
    | fault h op2 a2 e2 => exact run_eql_iface_types 32 73 _ _ Tryz.underlying27 (by decide) w
    | join h ga2 a2 b2 => exact hb.elim
  | other g => exact ha.elim
  | fault g op1 a1 e1 =>
    cases b with
    | no j => exact run_eql_iface_types 73 32 _ _ Tryz.underlying27 (by decide) w
    | other h => exact hb.elim
    | fault h op2 a2 e2 => exact eql_ptr73 (ha.1) (hb.1)
    | join h ga2 a2 b2 => exact hb.elim
  | join g ga1 a1 b1 => exact ha.elim
set_option maxHeartbeats 8000000 in
set_option maxRecDepth 100000 in
theorem is_any : ∀ (n : Nat) (e : Err), e.size ≤ n → ∀ (w : World) (t : Err), e.ok w → t.ok w →
    Calls Tryz.prog 36 #[e.val, t.val, .bool true] w fun ev w' => ev = .returned (.bool (e.is t)) ∧ w = w' := by
  intro n
  induction n with
  | zero => intro e he; cases e <;> simp [Err.size] at he
  | succ n ih =>
  intro e he w t hok htok
  have HOK := Lib.hid hok
  have HT := Lib.hid htok
  have HIH := Lib.hid ih
  have HE : Hid (e.size ≤ n + 1) := Lib.hid he
  obtain ⟨tyt, vt, hvt⟩ := t.isIface
  have HVT := Lib.hid hvt
  rw [hvt]
  clear hok htok ih he hvt
  go_enter Tryz.func36, Tryz.ntmps36
  go_wp2
  go_loopg [0] (n + 1) (fun g s0 wr => wr = w ∧ ∃ cur : Err, s0 = cur.val ∧ Hid (cur.size ≤ g ∧ g ≤ n + 1 ∧ cur.ok w ∧ cur.is t = e.is t))
  case atStart => exact ⟨rfl, e, rfl, HE, Nat.le_refl _, HOK.out, rfl⟩
  case round =>
    obtain ⟨rfl, cur, rfl, HC⟩ := hrel
    have hq := eql_same HC.out.2.2.1 HT.out
    rw [HVT.out] at hq
    cases hs : cur.same t with
    | true =>
      rw [hs] at hq
      have HR : Hid (e.is t = true) := Lib.hid (by rw [← HC.out.2.2.2]; cases cur <;> simp [Err.is, hs])
      clear hs
      obtain ⟨tyc, vc, hvc⟩ := cur.isIface
      rw [hvc] at hq ⊢
      clear hvc
      go_wp2
      go_ret
      refine ⟨?_, rfl⟩; rw [HR.out]; (try rfl)
    | false =>
      rw [hs] at hq
      cases cur with
      | no k =>
        have l1 := lacks32_100
        simp only [Err.val] at hq ⊢
        have l2 := lacks32_103
        have l3 := lacks32_105
        have HR : Hid (e.is t = false) := Lib.hid (by rw [← HC.out.2.2.2]; simp [Err.is, hs])
        clear hs
        go_wp2
        go_ret
        refine ⟨?_, rfl⟩; rw [HR.out]; (try rfl)
      | other g => exact HC.out.2.2.1.elim
      | fault g op at_ e1 =>
        have l1 := lacks73_100
        simp only [Err.val] at hq ⊢
        have l2 := has73_103
        have mU := methodUnwrap
        have HR : Hid (e1.is t = e.is t) := Lib.hid (by rw [← HC.out.2.2.2]; simp [Err.is, hs])
        clear hs
        obtain ⟨ty, vv, hv⟩ := e1.isIface
        have hF : Hid (wr.heap[g]? = some (.cells #[.string op, .int .i64 at_, .iface ty vv] 77 (0, 0))) := Lib.hid (by rw [← hv]; exact HC.out.2.2.1.1)
        have HV := Lib.hid hv
        clear hv
        obtain ⟨k1, hk1⟩ : ∃ k1, gk = k1 + 1 := ⟨gk - 1, by have h1_ := HC.out.1; simp only [Err.size] at h1_; omega⟩
        have HK := Lib.hid hk1
        clear hk1
        go_wp2_with (go_at_call 134; refine (unwrap_any g op at_ (.iface ty vv) _ hF.out).mono ?_; rintro ev w2 ⟨rfl, rfl⟩)
        go_roundg k1
        case rel => exact ⟨rfl, e1, HV.out.symm, by have h1_ := HC.out.1; have h2_ := HK.out; simp only [Err.size] at h1_; omega, by have := HC.out.2.1; have := HK.out; omega, HC.out.2.2.1.2, HR.out⟩
        case measure => have := HK.out; omega
      | join g ga a b => exact HC.out.2.2.1.elim
set_option maxHeartbeats 4000000 in
set_option maxRecDepth 100000 in
theorem Is_any (e t : Err) (w : World) (hok : e.ok w) (htok : t.ok w) :
    Calls Tryz.prog 11 #[e.val, t.val] w fun ev w' => ev = .returned (.bool (e.is t)) ∧ w = w' := by
  have h35 := @run_callFunc_extern Tryz.prog 35 _ (ReflectliteType.typeOf) Tryz.func35 (by kernel_rfl) (by kernel_rfl) (by kernel_rfl) (by kernel_rfl)
  have h138 := @run_callFunc_extern Tryz.prog 138 _ (ReflectliteType.method (fun t => do Rtype.noPackHeld "Comparable" t; pure (.bool (← typeInfo t).comparable))) Tryz.func138 (by kernel_rfl) (by kernel_rfl) (by kernel_rfl) (by kernel_rfl)
  have mC := methodComparable
  have HI := Lib.hid (is_any _ e (Nat.le_refl _) w t hok htok)
  obtain ⟨tye, ve, hve⟩ := e.isIface
  rw [hve] at HI ⊢
  clear hve hok
  cases t with
  | no k =>
    have tO := typeOf32
    have c1 := comparable32
    simp only [Err.val] at HI ⊢
    clear htok
    go_enter Tryz.func11, Tryz.ntmps11
    go_wp2_with (go_at_call 36; refine HI.out.mono ?_; rintro ev w2 ⟨rfl, rfl⟩)
    go_ret
    exact ⟨rfl, rfl⟩
  | other g => exact htok.elim
  | fault g op at_ e1 =>
    have tO := typeOf73
    have c1 := comparable73
    simp only [Err.val] at HI ⊢
    clear htok
    go_enter Tryz.func11, Tryz.ntmps11
    go_wp2_with (go_at_call 36; refine HI.out.mono ?_; rintro ev w2 ⟨rfl, rfl⟩)
    go_ret
    exact ⟨rfl, rfl⟩
  | join g ga a b => exact htok.elim
end Go.Proofs.YtfabnapjbgamaaaGreatDoor.Er
