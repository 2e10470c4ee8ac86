import Derived.Test.YtpkdfjlkhfjlcaaDoorErG
namespace Go.Proofs.YtpkdfjlkhfjlcaaDoor.Er
open Go.RowKit Go.Extern.Stop Go.Stop Go.Extern Go.Proofs.YtpkdfjlkhfjlcaaDoorW.PrintWords
set_option linter.unusedVariables false
set_option linter.unusedSimpArgs false
theorem unwrapE (g : Nat) (op : ByteArray) (a : Int) (ty : TypeId) (v : Value) (w : World) (h : w.heap[g]? = some (.cells #[.string op, .int .i64 a, .iface ty v] 42 (0, 0))) :
    Calls Tryd.prog 22 #[.iface 38 (.pointer (some ⟨g, 0, none⟩))] w fun e w' => e = .returned (.iface ty v) ∧ w = w' := by
  have l2 := has38_79
  have mU := methodUnwrap
  have HF := Lib.hid h
  clear h
  go_enter Tryd.func22, Tryd.ntmps22
  go_wp2_with (go_at_call 24; refine (unwrap_any g op a (.iface ty v) _ HF.out).mono ?_; rintro ev w2 ⟨rfl, rfl⟩)
  go_ret
  exact ⟨rfl, rfl⟩
theorem newE (s : ByteArray) (w : World) : Calls Tryd.prog 23 #[.string s] w fun e w' => e = .returned (.iface 81 (.pointer (some ⟨w.heap.size, 0, none⟩))) ∧ w' = w.alloc (.cells #[.string s] 83) := by
  go_enter Tryd.func23, Tryd.ntmps23
  go_wp2
  go_ret
  exact ⟨rfl, rfl⟩
theorem neq_int (k : Int) (w : World) : (binOp .neq 23 (.iface 25 (.int .i64 k)) (.iface 25 (.int .i64 k))).run Tryd.prog w = .ok (.bool false) w := by
  have h1 : (Tryd.prog.info? 25).map (fun i => i.comparable) = some true := by kernel_rfl
  obtain ⟨i, hi, hc⟩ := Option.map_eq_some_iff.1 h1
  have h : ∀ d : Nat, (Op.equalIn (d + 2) 23 (.iface 25 (.int .i64 k)) (.iface 25 (.int .i64 k))).run Tryd.prog w = .ok true w := fun d => by
    simp [Op.equalIn, run_underlying Tryd.underlying23, run_underlying Tryd.underlying25, typeInfo, hi, hc]
  simp only [binOp]
  simp [Op.equal, Op.maxDepth, h 9998]
theorem within18 (x : Int) : ∃ k, MFaultDeep.broadsidebook_Within.f x 1 8 = some k := by
  unfold MFaultDeep.broadsidebook_Within.f
  rw [if_neg (by unfold wrap64; omega)]
  split <;> exact ⟨_, rfl⟩

set_option maxHeartbeats 8000000 in
set_option maxRecDepth 100000 in
theorem fw_calls (op : ByteArray) (at_ kind : Int) (w : World) (ht : Typ w) : Calls Tryd.prog 5 #[.string op, .int .i64 at_, .int .i64 kind] w fun e w' => e = .returned (.bool true) ∧ Below w.heap.size w w' := by
  obtain ⟨k, hk⟩ := within18 kind
  have HK := Lib.hid hk
  have HT := Lib.hid ht
  clear hk ht
  go_enter Tryd.func5, Tryd.ntmps5
  go_wp2_with fail
  refine (MFaultDeep.broadsidebook_Within.calls kind 1 8 k _ HK.out).mono ?_
  rintro ev w1 ⟨rfl, hb1⟩
  have HB1 : Hid (Below w.heap.size w w1) := Lib.hid (by have h_ := hb1; first | exact h_ | exact h_.below)
  clear hb1
  go_wp2_with fail
  refine (new_any op at_ (.no k) w1).mono ?_
  rintro ev w2 ⟨rfl, rfl⟩
  simp only [Err.val]
  go_upto_region 4 with (fail)
  obtain ⟨W1, hW1⟩ : ∃ W1, W1 = w1.alloc (.cells #[.string op, .int .i64 at_, .iface 25 (.int .i64 k)] 42) := ⟨_, rfl⟩
  have HOK : Hid ((Err.fault w1.heap.size op at_ (.no k)).ok W1) := Lib.hid (by rw [hW1]; exact new_ok op at_ (.no k) w1 trivial)
  have HBW1 : Hid (Below w.heap.size w W1) := Lib.hid (by rw [hW1]; exact HB1.out.alloc HB1.out.size _)
  have hs1 : W1.heap.size = w1.heap.size + 1 := by rw [hW1]; simp
  rw [← hW1, ← hs1]
  clear hW1 hs1 HB1
  generalize w1.heap.size = g0 at HOK ⊢
  obtain ⟨W2, hW2⟩ : ∃ W2, W2 = W1.alloc (.cells #[.pointer none] 38) := ⟨_, rfl⟩
  have HB2 : Hid (Below W1.heap.size W1 W2) := Lib.hid (by rw [hW2]; exact (Below.refl _ _).alloc (Nat.le_refl _) _)
  have HTB : Hid (W2.heap[W1.heap.size]? = some (.cells #[.pointer none] 38 (0, 0))) := Lib.hid (by rw [hW2]; exact get_new W1 _)
  have HA : Hid (Calls Tryd.prog 21 #[.iface 38 (.pointer (some ⟨g0, 0, none⟩)), .iface 40 (.pointer (some ⟨W1.heap.size, 0, none⟩))] W2 fun ev w' => ev = .returned (.bool true) ∧ ∃ w1, Below W2.heap.size W2 w1 ∧ w' = w1.setCell ⟨W1.heap.size, 0, none⟩ (.pointer (some ⟨g0, 0, none⟩))) :=
    Lib.hid (As_fault (.fault g0 op at_ (.no k)) W2 W1.heap.size (.pointer none) (HT.out.below (HBW1.out.trans (HB2.out.mono HBW1.out.size))) (Err.okBelow HB2.out HOK.out) HTB.out)
  rw [← hW2]
  clear hW2
  have HLT : Hid (g0 < W1.heap.size) := Lib.hid (lt_of_get HOK.out.1)
  obtain ⟨tb, htb⟩ : ∃ tb, tb = W1.heap.size := ⟨_, rfl⟩
  rw [← htb] at HA HTB HLT ⊢
  have HTBE := Lib.hid htb
  clear htb
  have nq := neq_int k
  go_upto_region 6 with (first
    | (go_at_call 21; refine HA.out.mono ?_; rintro ev w3 ⟨rfl, w4, hb4, rfl⟩; have H4 := Lib.hid hb4; clear hb4; have h3 := Lib.hid (set_get (v := .pointer (some ⟨g0, 0, none⟩)) ((H4.out.block _ (lt_of_get HTB.out)).trans HTB.out)); have hg3 := Lib.hid ((set_far (v := .pointer (some ⟨g0, 0, none⟩)) (Nat.ne_of_lt HLT.out)).trans (((HB2.out.trans (H4.out.mono HB2.out.size)).block _ (lt_of_get HOK.out.1)).trans HOK.out.1)); have c0 := (cell_of h3.out 0).trans rfl; have d0 := (cell_of hg3.out 0).trans rfl; have d1 := (cell_of hg3.out 1).trans rfl)
    | (go_at_call 22; refine (unwrapE g0 op at_ 25 (.int .i64 k) _ hg3.out).mono ?_; rintro ev w5 ⟨rfl, rfl⟩))
  obtain ⟨W3, hW3⟩ : ∃ W3, W3 = w4.setCell ⟨tb, 0, none⟩ (.pointer (some ⟨g0, 0, none⟩)) := ⟨_, rfl⟩
  rw [← hW3]
  have HB3 : Hid (Below W1.heap.size W1 W3) := Lib.hid (by rw [hW3]; exact (HB2.out.trans (H4.out.mono HB2.out.size)).setCell (Nat.le_of_eq HTBE.out.symm) _)
  have hok0 : (Err.fault g0 op at_ (.no k)).ok W3 := Err.okBelow HB3.out HOK.out
  have HBW3 : Below w.heap.size w W3 := HBW1.out.trans (HB3.out.mono HBW1.out.size)
  have HOK0 := Lib.hid hok0
  have HBW3 := Lib.hid HBW3
  clear hW3 hok0 c0 d0 d1 h3 hg3 H4 HA HTB HLT HTBE HB2 HB3 HOK nq HBW1
  go_wp2_with fail
  refine (newE _ W3).mono ?_
  rintro ev w9 ⟨rfl, rfl⟩
  obtain ⟨W4, hW4⟩ : ∃ W4, W4 = W3.alloc (.cells #[.string (⟨#[111, 116, 104, 101, 114]⟩ : ByteArray)] 83) := ⟨_, rfl⟩
  rw [← hW4]
  have hb4 : Below W3.heap.size W3 W4 := by rw [hW4]; exact (Below.refl _ _).alloc (Nat.le_refl _) _
  have ho4 : (Err.other W3.heap.size).ok W4 := ⟨_, by rw [hW4]; exact get_new W3 _⟩
  have hok4 := Err.okBelow hb4 HOK0.out
  have HBW4 := Lib.hid (HBW3.out.trans (hb4.mono HBW3.out.size))
  clear hW4 hb4 HOK0 HBW3
  generalize W3.heap.size = g2 at ho4 ⊢
  have HO4 := Lib.hid ho4
  have HOK4 := Lib.hid hok4
  clear ho4 hok4
  go_wp2_with fail
  refine (new_any (⟨#[120]⟩ : ByteArray) at_ (.other g2) W4).mono ?_
  rintro ev w9 ⟨rfl, rfl⟩
  simp only [Err.val]
  obtain ⟨W5, hW5⟩ : ∃ W5, W5 = W4.alloc (.cells #[.string (⟨#[120]⟩ : ByteArray), .int .i64 at_, .iface 81 (.pointer (some ⟨g2, 0, none⟩))] 42) := ⟨_, rfl⟩
  rw [← hW5]
  have hb5 : Below W4.heap.size W4 W5 := by rw [hW5]; exact (Below.refl _ _).alloc (Nat.le_refl _) _
  have hg5 : (Err.fault W4.heap.size (⟨#[120]⟩ : ByteArray) at_ (.other g2)).ok W5 := by rw [hW5]; exact new_ok _ _ (.other g2) W4 HO4.out
  have ho5 := Err.okBelow hb5 HO4.out
  have hok5 := Err.okBelow hb5 HOK4.out
  have HBW5 := Lib.hid (HBW4.out.trans (hb5.mono HBW4.out.size))
  clear hW5 hb5 HOK4 HBW4 HO4
  generalize W4.heap.size = g3 at hg5 ⊢
  have HO5 := Lib.hid ho5
  have HOK5 := Lib.hid hok5
  have HG5 := Lib.hid hg5
  clear ho5 hok5 hg5
  go_wp2_with fail
  refine (new_any (⟨#[122]⟩ : ByteArray) 1 (.fault g0 op at_ (.no k)) W5).mono ?_
  rintro ev w9 ⟨rfl, rfl⟩
  simp only [Err.val]
  obtain ⟨W6, hW6⟩ : ∃ W6, W6 = W5.alloc (.cells #[.string (⟨#[122]⟩ : ByteArray), .int .i64 1, .iface 38 (.pointer (some ⟨g0, 0, none⟩))] 42) := ⟨_, rfl⟩
  rw [← hW6]
  have hb6 : Below W5.heap.size W5 W6 := by rw [hW6]; exact (Below.refl _ _).alloc (Nat.le_refl _) _
  have hz6 : (Err.fault W5.heap.size (⟨#[122]⟩ : ByteArray) 1 (.fault g0 op at_ (.no k))).ok W6 := by rw [hW6]; exact new_ok _ _ (.fault g0 op at_ (.no k)) W5 HOK5.out
  have ho6 := Err.okBelow hb6 HO5.out
  have hg6 := Err.okBelow hb6 HG5.out
  have HBW6 := Lib.hid (HBW5.out.trans (hb6.mono HBW5.out.size))
  clear hW6 hb6 HOK5 HBW5 HO5 HG5
  generalize W5.heap.size = g4 at hz6 ⊢
  have HO6 := Lib.hid ho6
  have HG6 := Lib.hid hg6
  have HZ6 := Lib.hid hz6
  clear ho6 hg6 hz6
  go_wp2_with fail
  refine (new_any (⟨#[121]⟩ : ByteArray) 0 (.fault g4 (⟨#[122]⟩ : ByteArray) 1 (.fault g0 op at_ (.no k))) W6).mono ?_
  rintro ev w9 ⟨rfl, rfl⟩
  simp only [Err.val]
  obtain ⟨W, hW⟩ : ∃ W, W = W6.alloc (.cells #[.string (⟨#[121]⟩ : ByteArray), .int .i64 0, .iface 38 (.pointer (some ⟨g4, 0, none⟩))] 42) := ⟨_, rfl⟩
  rw [← hW]
  have hb7 : Below W6.heap.size W6 W := by rw [hW]; exact (Below.refl _ _).alloc (Nat.le_refl _) _
  have hy7 : (Err.fault W6.heap.size (⟨#[121]⟩ : ByteArray) 0 (.fault g4 (⟨#[122]⟩ : ByteArray) 1 (.fault g0 op at_ (.no k)))).ok W := by rw [hW]; exact new_ok _ _ (.fault g4 _ 1 (.fault g0 op at_ (.no k))) W6 HZ6.out
  have ho7 := Err.okBelow hb7 HO6.out
  have hg7 := Err.okBelow hb7 HG6.out
  have HBW := Lib.hid (HBW6.out.trans (hb7.mono HBW6.out.size))
  clear hW hb7 HBW6 HO6 HG6 HZ6
  generalize W6.heap.size = g5 at hy7 ⊢
  have HO := Lib.hid ho7
  have HG := Lib.hid hg7
  have HY := Lib.hid hy7
  clear ho7 hg7 hy7
  have HTW : Hid (Typ W) := Lib.hid (HT.out.below HBW.out)
  have HB : Hid (Below W.heap.size W W) := Lib.hid (Below.refl _ _)
  have K1 : Hid (∀ w', Below W.heap.size W w' → Calls Tryd.prog 13 #[.iface 38 (.pointer (some ⟨g3, 0, none⟩))] w' fun ev w2 => ev = .returned (.int .i64 0) ∧ Below w'.heap.size w' w2) := Lib.hid (fun w' hb => kind_any _ w' (HTW.out.below hb) (Err.okBelow hb HG.out))
  have K2 : Hid (∀ w', Below W.heap.size W w' → Calls Tryd.prog 17 #[.iface 38 (.pointer (some ⟨g3, 0, none⟩)), .iface 81 (.pointer (some ⟨g2, 0, none⟩))] w' fun ev w2 => ev = .returned (.bool true) ∧ w' = w2) := Lib.hid (fun w' hb => by
    have h_ := Is_any _ _ w' (Err.okBelow hb HG.out) (Err.okBelow hb HO.out)
    simp only [Err.is, Err.same, decide_true, Bool.or_true] at h_
    exact h_)
  have K3 : Hid (∀ w', Below W.heap.size W w' → Calls Tryd.prog 16 #[.iface 38 (.pointer (some ⟨g3, 0, none⟩))] w' fun ev w2 => ev = .returned (.int .i64 at_) ∧ Below w'.heap.size w' w2) := Lib.hid (fun w' hb => place_any _ w' (HTW.out.below hb) (Err.okBelow hb HG.out))
  have K4 : Hid (∀ w', Below W.heap.size W w' → Calls Tryd.prog 17 #[.iface 38 (.pointer (some ⟨g5, 0, none⟩)), .iface 38 (.pointer (some ⟨g0, 0, none⟩))] w' fun ev w2 => ev = .returned (.bool true) ∧ w' = w2) := Lib.hid (fun w' hb => by
    have h_ := Is_any _ _ w' (Err.okBelow hb HY.out) (Err.okBelow hb HY.out.2.2)
    simp only [Err.is, Err.same, decide_true, Bool.or_true, Bool.true_or] at h_
    exact h_)
  have K5 : Hid (∀ w', Below W.heap.size W w' → Calls Tryd.prog 13 #[.iface 38 (.pointer (some ⟨g5, 0, none⟩))] w' fun ev w2 => ev = .returned (.int .i64 k) ∧ Below w'.heap.size w' w2) := Lib.hid (fun w' hb => kind_any _ w' (HTW.out.below hb) (Err.okBelow hb HY.out))
  have K6 : Hid (∀ w', Below W.heap.size W w' → Calls Tryd.prog 15 #[.iface 38 (.pointer (some ⟨g5, 0, none⟩))] w' fun ev w2 => ∃ A0 c0, ev = .returned (.slice A0 3 c0) ∧ Below w'.heap.size w' w2) := Lib.hid (fun w' hb => (trace_any _ w' (HTW.out.below hb) (Err.okBelow hb HY.out) (by simp [Err.size])).mono fun ev w2 h_ => by
    obtain ⟨v, rfl, ho, hb2⟩ := h_
    obtain ⟨A0, c0, rfl, _⟩ := own_at ho
    exact ⟨A0, c0, rfl, hb2⟩)
  have K7 : Hid (∀ w', Below W.heap.size W w' → Calls Tryd.prog 13 #[.iface 25 (.int .i64 k)] w' fun ev w2 => ev = .returned (.int .i64 k) ∧ Below w'.heap.size w' w2) := Lib.hid (fun w' hb => kind_any (.no k) w' (HTW.out.below hb) trivial)
  have K8 : Hid (∀ w', Below W.heap.size W w' → Calls Tryd.prog 16 #[.iface 25 (.int .i64 k)] w' fun ev w2 => ev = .returned (.int .i64 (-1)) ∧ Below w'.heap.size w' w2) := Lib.hid (fun w' hb => place_any (.no k) w' (HTW.out.below hb) trivial)
  clear HO HG HY HK HT
  go_wp2_with (first
    | (go_at_call 13; (first | (with_reducible refine (K1.out _ HB.out).mono ?_) | (with_reducible refine (K5.out _ HB.out).mono ?_) | (with_reducible refine (K7.out _ HB.out).mono ?_)); rintro ev w9 ⟨rfl, hb⟩; have n_ := Lib.hid (HB.out.trans (hb.mono HB.out.size)); clear HB hb; have HB := n_; clear n_)
    | (go_at_call 17; (first | (with_reducible refine (K2.out _ HB.out).mono ?_) | (with_reducible refine (K4.out _ HB.out).mono ?_)); rintro ev w9 ⟨rfl, rfl⟩)
    | (go_at_call 16; (first | (with_reducible refine (K3.out _ HB.out).mono ?_) | (with_reducible refine (K8.out _ HB.out).mono ?_)); rintro ev w9 ⟨rfl, hb⟩; have n_ := Lib.hid (HB.out.trans (hb.mono HB.out.size)); clear HB hb; have HB := n_; clear n_)
    | (go_at_call 15; refine (K6.out _ HB.out).mono ?_; rintro ev w9 ⟨A0, c0, rfl, hb⟩; have n_ := Lib.hid (HB.out.trans (hb.mono HB.out.size)); clear HB hb; have HB := n_; clear n_)
    | (go_at_call 3; refine (fr_calls _ (HTW.out.below HB.out)).mono ?_; rintro ev w9 ⟨rfl, hb⟩; have n_ := Lib.hid (HB.out.trans (hb.mono HB.out.size)); clear HB hb; have HB := n_; clear n_))
  go_ret
  exact ⟨rfl, HBW.out.trans (HB.out.mono HBW.out.size)⟩
end Go.Proofs.YtpkdfjlkhfjlcaaDoor.Er
