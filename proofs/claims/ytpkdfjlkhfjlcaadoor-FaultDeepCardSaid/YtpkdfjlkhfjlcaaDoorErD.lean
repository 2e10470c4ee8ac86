import Derived.Test.YtpkdfjlkhfjlcaaDoorErB
/-! errors.Is of an error: is one of the chain the target? -/
namespace Go.Proofs.YtpkdfjlkhfjlcaaDoor.Er
open Go.RowKit Go.Extern.Stop Go.Stop Go.Extern
set_option linter.unusedVariables false
set_option linter.unusedSimpArgs false
def Err.same : Err → Err → Bool
  | .no k, .no j => decide (k = j)
  | .other g, .other h => decide (g = h)
  | .fault g _ _ _, .fault h _ _ _ => decide (g = h)
  | .join g _ _ _, .join h _ _ _ => decide (g = h)
  | _, _ => false
def Err.is : Err → Err → Bool
  | .no k, t => (Err.no k).same t
  | .other g, t => (Err.other g).same t
  | .fault g op at_ e, t => (Err.fault g op at_ e).same t || e.is t
  | .join g ga a b, t => (Err.join g ga a b).same t || (a.is t || b.is t)
theorem cmpinfo81 : ∃ i j, Tryd.prog.info? 81 = some i ∧ i.comparable = true ∧ Tryd.prog.info? 83 = some j ∧ j.size ≠ 0 := by
  have h1 : (Tryd.prog.info? 81).map (fun i => i.comparable) = some true := by kernel_rfl
  have h2 : (Tryd.prog.info? 83).map (fun i => i.size == 0) = some false := by kernel_rfl
  obtain ⟨i, hi, hi2⟩ := Option.map_eq_some_iff.1 h1
  obtain ⟨j, hj, hj2⟩ := Option.map_eq_some_iff.1 h2
  exact ⟨i, j, hi, hi2, hj, by simpa using hj2⟩
theorem cmpinfo38 : ∃ i j, Tryd.prog.info? 38 = some i ∧ i.comparable = true ∧ Tryd.prog.info? 42 = some j ∧ j.size ≠ 0 := by
  have h1 : (Tryd.prog.info? 38).map (fun i => i.comparable) = some true := by kernel_rfl
  have h2 : (Tryd.prog.info? 42).map (fun i => i.size == 0) = some false := by kernel_rfl
  obtain ⟨i, hi, hi2⟩ := Option.map_eq_some_iff.1 h1
  obtain ⟨j, hj, hj2⟩ := Option.map_eq_some_iff.1 h2
  exact ⟨i, j, hi, hi2, hj, by simpa using hj2⟩
theorem cmpinfo85 : ∃ i j, Tryd.prog.info? 85 = some i ∧ i.comparable = true ∧ Tryd.prog.info? 87 = some j ∧ j.size ≠ 0 := by
  have h1 : (Tryd.prog.info? 85).map (fun i => i.comparable) = some true := by kernel_rfl
  have h2 : (Tryd.prog.info? 87).map (fun i => i.size == 0) = some false := by kernel_rfl
  obtain ⟨i, hi, hi2⟩ := Option.map_eq_some_iff.1 h1
  obtain ⟨j, hj, hj2⟩ := Option.map_eq_some_iff.1 h2
  exact ⟨i, j, hi, hi2, hj, by simpa using hj2⟩
theorem eql_int (k j : Int) (w : World) : (binOp .eql 23 (.iface 25 (.int .i64 k)) (.iface 25 (.int .i64 j))).run Tryd.prog w = .ok (.bool (decide (k = j))) w := by
  have h1 : (Tryd.prog.info? 25).map (fun i => i.comparable) = some true := by kernel_rfl
  obtain ⟨i, hi, hc⟩ := Option.map_eq_some_iff.1 h1
  have h : ∀ d : Nat, (Op.equalIn (d + 2) 23 (.iface 25 (.int .i64 k)) (.iface 25 (.int .i64 j))).run Tryd.prog w = .ok (decide (k = j)) w := fun d => by
    simp [Op.equalIn, run_underlying Tryd.underlying23, run_underlying Tryd.underlying25, typeInfo, hi, hc]
    rw [Bool.eq_iff_iff]
    simp
  simp only [binOp]
  simp [Op.equal, Op.maxDepth, h 9998]
theorem eql_ptr81 {g h : Nat} {ca cb : Array Value} {ta tb : TypeId} {w : World} (ha : w.heap[g]? = some (.cells ca ta (0, 0))) (hb : w.heap[h]? = some (.cells cb tb (0, 0))) :
    (binOp .eql 23 (.iface 81 (.pointer (some ⟨g, 0, none⟩))) (.iface 81 (.pointer (some ⟨h, 0, none⟩)))).run Tryd.prog w = .ok (.bool (decide (g = h))) w := by
  obtain ⟨i, j, h1, h2, h3, h4⟩ := cmpinfo81
  by_cases e : g = h
  · subst e
    rw [run_eql_iface_ptr_same w ⟨g, 0, none⟩ Tryd.underlying23 Tryd.underlying81 h1 h2 h3]
    simp
  · rw [run_eql_iface_ptr_other w Tryd.underlying23 Tryd.underlying81 h1 h2 h3 h4 (fun h_ => e (by cases h_; rfl)) ha hb]
    simp [e]
theorem eql_ptr38 {g h : Nat} {ca cb : Array Value} {ta tb : TypeId} {w : World} (ha : w.heap[g]? = some (.cells ca ta (0, 0))) (hb : w.heap[h]? = some (.cells cb tb (0, 0))) :
    (binOp .eql 23 (.iface 38 (.pointer (some ⟨g, 0, none⟩))) (.iface 38 (.pointer (some ⟨h, 0, none⟩)))).run Tryd.prog w = .ok (.bool (decide (g = h))) w := by
  obtain ⟨i, j, h1, h2, h3, h4⟩ := cmpinfo38
  by_cases e : g = h
  · subst e
    rw [run_eql_iface_ptr_same w ⟨g, 0, none⟩ Tryd.underlying23 Tryd.underlying38 h1 h2 h3]
    simp
  · rw [run_eql_iface_ptr_other w Tryd.underlying23 Tryd.underlying38 h1 h2 h3 h4 (fun h_ => e (by cases h_; rfl)) ha hb]
    simp [e]
theorem eql_ptr85 {g h : Nat} {ca cb : Array Value} {ta tb : TypeId} {w : World} (ha : w.heap[g]? = some (.cells ca ta (0, 0))) (hb : w.heap[h]? = some (.cells cb tb (0, 0))) :
    (binOp .eql 23 (.iface 85 (.pointer (some ⟨g, 0, none⟩))) (.iface 85 (.pointer (some ⟨h, 0, none⟩)))).run Tryd.prog w = .ok (.bool (decide (g = h))) w := by
  obtain ⟨i, j, h1, h2, h3, h4⟩ := cmpinfo85
  by_cases e : g = h
  · subst e
    rw [run_eql_iface_ptr_same w ⟨g, 0, none⟩ Tryd.underlying23 Tryd.underlying85 h1 h2 h3]
    simp
  · rw [run_eql_iface_ptr_other w Tryd.underlying23 Tryd.underlying85 h1 h2 h3 h4 (fun h_ => e (by cases h_; rfl)) ha hb]
    simp [e]
theorem ok_block : ∀ {e : Err} {w : World}, e.ok w → (∃ k, e = .no k) ∨ ∃ g cs t, w.heap[g]? = some (.cells cs t (0, 0)) ∧ ((e = .other g) ∨ (∃ op a e1, e = .fault g op a e1) ∨ ∃ ga a b, e = .join g ga a b)
  | .no k, _, _ => .inl ⟨k, rfl⟩
  | .other g, _, ⟨s, hs⟩ => .inr ⟨g, _, _, hs, .inl rfl⟩
  | .fault g op a e1, _, h => .inr ⟨g, _, _, h.1, .inr (.inl ⟨_, _, _, rfl⟩)⟩
  | .join g ga a b, _, h => .inr ⟨g, _, _, h.1, .inr (.inr ⟨_, _, _, rfl⟩)⟩
theorem eql_same {a b : Err} {w : World} (ha : a.ok w) (hb : b.ok w) : (binOp .eql 23 a.val b.val).run Tryd.prog w = .ok (.bool (a.same b)) w := by
  cases a with
  | no k =>
    cases b with
    | no j => exact eql_int k j w
    | other h => exact run_eql_iface_types 25 81 _ _ Tryd.underlying23 (by decide) w
    | fault h op2 a2 e2 => exact run_eql_iface_types 25 38 _ _ Tryd.underlying23 (by decide) w
    | join h ga2 a2 b2 => exact run_eql_iface_types 25 85 _ _ Tryd.underlying23 (by decide) w
  | other g =>
    cases b with
    | no j => exact run_eql_iface_types 81 25 _ _ Tryd.underlying23 (by decide) w
    | other h => exact eql_ptr81 (ha.choose_spec) (hb.choose_spec)
    | fault h op2 a2 e2 => exact run_eql_iface_types 81 38 _ _ Tryd.underlying23 (by decide) w
    | join h ga2 a2 b2 => exact run_eql_iface_types 81 85 _ _ Tryd.underlying23 (by decide) w
  | fault g op1 a1 e1 =>
    cases b with
    | no j => exact run_eql_iface_types 38 25 _ _ Tryd.underlying23 (by decide) w
    | other h => exact run_eql_iface_types 38 81 _ _ Tryd.underlying23 (by decide) w
    | fault h op2 a2 e2 => exact eql_ptr38 (ha.1) (hb.1)
    | join h ga2 a2 b2 => exact run_eql_iface_types 38 85 _ _ Tryd.underlying23 (by decide) w
  | join g ga1 a1 b1 =>
    cases b with
    | no j => exact run_eql_iface_types 85 25 _ _ Tryd.underlying23 (by decide) w
    | other h => exact run_eql_iface_types 85 81 _ _ Tryd.underlying23 (by decide) w
    | fault h op2 a2 e2 => exact run_eql_iface_types 85 38 _ _ Tryd.underlying23 (by decide) w
    | join h ga2 a2 b2 => exact eql_ptr85 (ha.1) (hb.1)
set_option maxHeartbeats 8000000 in
set_option maxRecDepth 100000 in
theorem is_any : ∀ (n : Nat) (e : Err), e.size ≤ n → ∀ (w : World) (t : Err), e.ok w → t.ok w →
    Calls Tryd.prog 35 #[e.val, t.val, .bool true] w fun ev w' => ev = .returned (.bool (e.is t)) ∧ w = w' := by
  intro n
  induction n with
  | zero => intro e he; cases e <;> simp [Err.size] at he
  | succ n ih =>
  intro e he w t hok htok
  have HOK := Lib.hid hok
  have HT := Lib.hid htok
  have HIH := Lib.hid ih
  have HE : Hid (e.size ≤ n + 1) := Lib.hid he
  obtain ⟨tyt, vt, hvt⟩ := t.isIface
  have HVT := Lib.hid hvt
  rw [hvt]
  clear hok htok ih he hvt
  go_enter Tryd.func35, Tryd.ntmps35
  go_wp2
  go_loopg [0] (n + 1) (fun g s0 wr => wr = w ∧ ∃ cur : Err, s0 = cur.val ∧ Hid (cur.size ≤ g ∧ g ≤ n + 1 ∧ cur.ok w ∧ cur.is t = e.is t))
  case atStart => exact ⟨rfl, e, rfl, HE, Nat.le_refl _, HOK.out, rfl⟩
  case round =>
    obtain ⟨rfl, cur, rfl, HC⟩ := hrel
    have hq := eql_same HC.out.2.2.1 HT.out
    rw [HVT.out] at hq
    cases hs : cur.same t with
    | true =>
      rw [hs] at hq
      have HR : Hid (e.is t = true) := Lib.hid (by rw [← HC.out.2.2.2]; cases cur <;> simp [Err.is, hs])
      clear hs
      obtain ⟨tyc, vc, hvc⟩ := cur.isIface
      rw [hvc] at hq ⊢
      clear hvc
      go_wp2
      go_ret
      refine ⟨?_, rfl⟩; rw [HR.out]; (try rfl)
    | false =>
      rw [hs] at hq
      cases cur with
      | no k =>
        have l1 := lacks25_95
        simp only [Err.val] at hq ⊢
        have l2 := lacks25_79
        have l3 := lacks25_98
        have HR : Hid (e.is t = false) := Lib.hid (by rw [← HC.out.2.2.2]; simp [Err.is, hs])
        clear hs
        go_wp2
        go_ret
        refine ⟨?_, rfl⟩; rw [HR.out]; (try rfl)
      | other g =>
        have l1 := lacks81_95
        simp only [Err.val] at hq ⊢
        have l2 := lacks81_79
        have l3 := lacks81_98
        have HR : Hid (e.is t = false) := Lib.hid (by rw [← HC.out.2.2.2]; simp [Err.is, hs])
        clear hs
        go_wp2
        go_ret
        refine ⟨?_, rfl⟩; rw [HR.out]; (try rfl)
      | fault g op at_ e1 =>
        have l1 := lacks38_95
        simp only [Err.val] at hq ⊢
        have l2 := has38_79
        have mU := methodUnwrap
        have HR : Hid (e1.is t = e.is t) := Lib.hid (by rw [← HC.out.2.2.2]; simp [Err.is, hs])
        clear hs
        obtain ⟨ty, vv, hv⟩ := e1.isIface
        have hF : Hid (wr.heap[g]? = some (.cells #[.string op, .int .i64 at_, .iface ty vv] 42 (0, 0))) := Lib.hid (by rw [← hv]; exact HC.out.2.2.1.1)
        have HV := Lib.hid hv
        clear hv
        obtain ⟨k1, hk1⟩ : ∃ k1, gk = k1 + 1 := ⟨gk - 1, by have h1_ := HC.out.1; simp only [Err.size] at h1_; omega⟩
        have HK := Lib.hid hk1
        clear hk1
        go_wp2_with (go_at_call 24; refine (unwrap_any g op at_ (.iface ty vv) _ hF.out).mono ?_; rintro ev w2 ⟨rfl, rfl⟩)
        go_roundg k1
        case rel => exact ⟨rfl, e1, HV.out.symm, by have h1_ := HC.out.1; have h2_ := HK.out; simp only [Err.size] at h1_; omega, by have := HC.out.2.1; have := HK.out; omega, HC.out.2.2.1.2, HR.out⟩
        case measure => have := HK.out; omega
      | join g ga a b =>
        have l1 := lacks85_95
        simp only [Err.val] at hq ⊢
        have l2 := lacks85_79
        have l3 := has85_98
        have mU := methodUnwraps
        have HR : Hid ((a.is t || b.is t) = e.is t) := Lib.hid (by rw [← HC.out.2.2.2]; simp [Err.is, hs])
        clear hs
        have hJ := Lib.hid HC.out.2.2.1
        obtain ⟨tya, vva, hva2⟩ := a.isIface
        obtain ⟨tyb, vvb, hvb2⟩ := b.isIface
        have d0 : wr.cell? ⟨ga, 0, none⟩ = some (.iface tya vva) := hva2 ▸ (cell_of hJ.out.2.1 0).trans rfl
        have d1 : wr.cell? ⟨ga, 1, none⟩ = some (.iface tyb vvb) := hvb2 ▸ (cell_of hJ.out.2.1 1).trans rfl
        have IA : Hid (Calls Tryd.prog 35 #[.iface tya vva, .iface tyt vt, .bool true] wr fun ev w' => ev = .returned (.bool (a.is t)) ∧ wr = w') := Lib.hid (by rw [← hva2, ← HVT.out]; exact HIH.out a (by have := HC.out.1; have := HC.out.2.1; simp only [Err.size] at *; omega) wr t hJ.out.2.2.1 HT.out)
        have IB : Hid (Calls Tryd.prog 35 #[.iface tyb vvb, .iface tyt vt, .bool true] wr fun ev w' => ev = .returned (.bool (b.is t)) ∧ wr = w') := Lib.hid (by rw [← hvb2, ← HVT.out]; exact HIH.out b (by have := HC.out.1; have := HC.out.2.1; simp only [Err.size] at *; omega) wr t hJ.out.2.2.2 HT.out)
        clear hva2 hvb2
        go_wp2_with (go_at_call 117; refine (unwraps_any g _ _ hJ.out.1).mono ?_; rintro ev w2 ⟨rfl, rfl⟩)
        refine wp_loop_rounds 3 ?_
        rw [rounds_succ]
        cases hra : a.is t with
        | true =>
          rw [hra] at IA
          have HN : Hid (e.is t = true) := Lib.hid (by rw [← HR.out, hra]; rfl)
          clear hra
          go_wp2_with (go_at_call 35; refine IA.out.mono ?_; rintro ev w2 ⟨rfl, rfl⟩)
          go_ret
          refine ⟨?_, rfl⟩; rw [HN.out]; (try rfl)
        | false =>
          rw [hra] at IA
          have HN : Hid (b.is t = e.is t) := Lib.hid (by rw [← HR.out, hra]; rfl)
          clear hra
          go_wp2_with (go_at_call 35; refine IA.out.mono ?_; rintro ev w2 ⟨rfl, rfl⟩)
          rw [rounds_succ]
          cases hrb : b.is t with
          | true =>
            rw [hrb] at IB
            have HN2 : Hid (e.is t = true) := Lib.hid (by rw [← HN.out, hrb])
            clear hrb
            go_wp2_with (go_at_call 35; refine IB.out.mono ?_; rintro ev w2 ⟨rfl, rfl⟩)
            go_ret
            refine ⟨?_, rfl⟩; rw [HN2.out]; (try rfl)
          | false =>
            rw [hrb] at IB
            have HN2 : Hid (e.is t = false) := Lib.hid (by rw [← HN.out, hrb])
            clear hrb
            go_wp2_with (go_at_call 35; refine IB.out.mono ?_; rintro ev w2 ⟨rfl, rfl⟩)
            rw [rounds_succ]
            go_wp2
            go_ret
            refine ⟨?_, rfl⟩; rw [HN2.out]; (try rfl)
set_option maxHeartbeats 4000000 in
set_option maxRecDepth 100000 in
theorem Is_any (e t : Err) (w : World) (hok : e.ok w) (htok : t.ok w) :
    Calls Tryd.prog 17 #[e.val, t.val] w fun ev w' => ev = .returned (.bool (e.is t)) ∧ w = w' := by
  have h34 := @run_callFunc_extern Tryd.prog 34 _ (ReflectliteType.typeOf) Tryd.func34 (by kernel_rfl) (by kernel_rfl) (by kernel_rfl) (by kernel_rfl)
  have h120 := @run_callFunc_extern Tryd.prog 120 _ (ReflectliteType.method (fun t => do Rtype.noPackHeld "Comparable" t; pure (.bool (← typeInfo t).comparable))) Tryd.func120 (by kernel_rfl) (by kernel_rfl) (by kernel_rfl) (by kernel_rfl)
  have mC := methodComparable
  have HI := Lib.hid (is_any _ e (Nat.le_refl _) w t hok htok)
  obtain ⟨tye, ve, hve⟩ := e.isIface
  rw [hve] at HI ⊢
  clear hve hok
  cases t with
  | no k =>
    have tO := typeOf25
    have c1 := comparable25
    simp only [Err.val] at HI ⊢
    clear htok
    go_enter Tryd.func17, Tryd.ntmps17
    go_wp2_with (go_at_call 35; refine HI.out.mono ?_; rintro ev w2 ⟨rfl, rfl⟩)
    go_ret
    exact ⟨rfl, rfl⟩
  | other g =>
    have tO := typeOf81
    have c1 := comparable81
    simp only [Err.val] at HI ⊢
    clear htok
    go_enter Tryd.func17, Tryd.ntmps17
    go_wp2_with (go_at_call 35; refine HI.out.mono ?_; rintro ev w2 ⟨rfl, rfl⟩)
    go_ret
    exact ⟨rfl, rfl⟩
  | fault g op at_ e1 =>
    have tO := typeOf38
    have c1 := comparable38
    simp only [Err.val] at HI ⊢
    clear htok
    go_enter Tryd.func17, Tryd.ntmps17
    go_wp2_with (go_at_call 35; refine HI.out.mono ?_; rintro ev w2 ⟨rfl, rfl⟩)
    go_ret
    exact ⟨rfl, rfl⟩
  | join g ga a b =>
    have tO := typeOf85
    have c1 := comparable85
    simp only [Err.val] at HI ⊢
    clear htok
    go_enter Tryd.func17, Tryd.ntmps17
    go_wp2_with (go_at_call 35; refine HI.out.mono ?_; rintro ev w2 ⟨rfl, rfl⟩)
    go_ret
    exact ⟨rfl, rfl⟩
end Go.Proofs.YtpkdfjlkhfjlcaaDoor.Er
