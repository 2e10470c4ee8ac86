import Derived.Test.YtpkdfjlkhfjlcaaDoorErH
import Derived.Test.YtpkdfjlkhfjlcaaDoorWMore
namespace Go.Proofs.YtpkdfjlkhfjlcaaDoor.Er
open Go.RowKit Go.Extern.Stop Go.Stop Go.Extern Go.Proofs.YtpkdfjlkhfjlcaaDoorW.PrintWords Go.Proofs.YtpkdfjlkhfjlcaaDoorW.PrintMore
attribute [local go_sem] max2_int min2_int max_two min_two
set_option linter.unusedVariables false
set_option linter.unusedSimpArgs false
set_option maxHeartbeats 8000000 in
set_option maxRecDepth 100000 in
theorem join_two (ta tb : TypeId) (va vb : Value) (ga0 : Nat) (w : World) (h : w.heap[ga0]? = some (.cells #[.iface ta va, .iface tb vb] 23 (0, 0))) :
    Calls Tryd.prog 25 #[.slice (some ⟨ga0, 0, none⟩) 2 2] w fun e w' => ∃ g ga, e = .returned (.iface 85 (.pointer (some ⟨g, 0, none⟩))) ∧ Below w.heap.size w w' ∧ w'.heap[g]? = some (.cells #[.slice (some ⟨ga, 0, none⟩) 2 2] 87 (0, 0)) ∧ w'.heap[ga]? = some (.cells #[.iface ta va, .iface tb vb] 23 (0, 0)) := by
  have H := Lib.hid h
  have c0 : w.cell? ⟨ga0, 0, none⟩ = some (.iface ta va) := (cell_of h 0).trans rfl
  have c1 : w.cell? ⟨ga0, 1, none⟩ = some (.iface tb vb) := (cell_of h 1).trans rfl
  have hmk : ∀ w, (Instr.makeSlice 84 (.int .i64 0) (.int .i64 2)).run Tryd.prog w = .ok (.slice (some ⟨w.heap.size, 0, none⟩) 0 2) (w.alloc (.cells #[.nilIface, .nilIface] 23)) := fun _ => by kernel_rfl
  have hlt := Lib.hid (lt_of_get H.out)
  have e0 : ∀ w', Below w.heap.size w w' → w'.cell? ⟨ga0, 0, none⟩ = some (.iface ta va) ∧ w'.cell? ⟨ga0, 1, none⟩ = some (.iface tb vb) := fun w' hb => ⟨(cell_of ((hb.block _ hlt.out).trans H.out) 0).trans rfl, (cell_of ((hb.block _ hlt.out).trans H.out) 1).trans rfl⟩
  have HE := Lib.hid e0
  clear h e0
  go_enter Tryd.func25, Tryd.ntmps25
  go_wp2
  refine wp_loop_rounds 3 ?_
  rw [rounds_succ]
  go_wp2
  rw [rounds_succ]
  go_wp2
  rw [rounds_succ]
  go_upto_region 11 with (fail)
  obtain ⟨W, hW⟩ : ∃ W, W = (w.alloc (.cells #[.nilIface, .nilIface] 23)).alloc (.cells #[.slice (some ⟨w.heap.size, 0, none⟩) 0 2] 87) := ⟨_, rfl⟩
  rw [← hW]
  have hb : Below w.heap.size w W := by rw [hW]; exact ((Below.refl _ _).alloc (Nat.le_refl _) _).alloc (by simp) _
  have h1 : W.heap[w.heap.size]? = some (.cells #[.nilIface, .nilIface] 23 (0, 0)) := by rw [hW]; exact get_alloc (get_new w _) _
  have h2 : W.heap[w.heap.size + 1]? = some (.cells #[.slice (some ⟨w.heap.size, 0, none⟩) 0 2] 87 (0, 0)) := by
    have h_ := get_new (w.alloc (.cells #[.nilIface, .nilIface] 23)) (.cells #[.slice (some ⟨w.heap.size, 0, none⟩) 0 2] 87)
    rw [show (w.alloc (.cells #[.nilIface, .nilIface] 23)).heap.size = w.heap.size + 1 from by simp, ← hW] at h_
    exact h_
  have HB := Lib.hid hb
  have H1 := Lib.hid h1
  have H2 := Lib.hid h2
  obtain ⟨d0, d1⟩ := HE.out _ hb
  have k0 : W.cell? ⟨w.heap.size + 1, 0, none⟩ = some (.slice (some ⟨w.heap.size, 0, none⟩) 0 2) := (cell_of h2 0).trans rfl
  have k1 : W.cell? ⟨w.heap.size, 0, none⟩ = some .nilIface := (cell_of h1 0).trans rfl
  have k2 : W.cell? ⟨w.heap.size, 1, none⟩ = some .nilIface := (cell_of h1 1).trans rfl
  have f0 := frozen_of h2 0
  have f1 := frozen_of h1 0
  have f2 := frozen_of h1 1
  have HNE : Hid (w.heap.size < W.heap.size ∧ w.heap.size + 1 < W.heap.size) := Lib.hid ⟨lt_of_get h1, lt_of_get h2⟩
  have hs1 := HNE.out.1
  have hs2 := HNE.out.2
  have hs3 : ga0 < W.heap.size := by have := hlt.out; omega
  clear hW hb h1 h2 c0 c1 hmk
  go_wp2
  refine wp_loop_rounds 3 ?_
  rw [rounds_succ]
  go_wp2
  obtain ⟨W3, hW3⟩ : ∃ W3, W3 = ((W.setCell ⟨w.heap.size, 0, none⟩ (.iface ta va)).setCell ⟨w.heap.size + 1, 0, none⟩ (.slice (some ⟨w.heap.size, 0, none⟩) 1 2)).alloc (.cells #[.iface ta va] 23) := ⟨_, rfl⟩
  rw [← hW3]
  clear d0 d1 k0 k1 k2 f0 f1 f2 hs1 hs2 hs3
  have hb3 : Below w.heap.size w W3 := by rw [hW3]; exact ((HB.out.setCell (Nat.le_refl _) _).setCell (Nat.le_succ _) _).alloc (by have := HNE.out.1; simp; omega) _
  have h31 : W3.heap[w.heap.size]? = some (.cells #[.iface ta va, .nilIface] 23 (0, 0)) := by
    rw [hW3]
    refine get_alloc ((set_far (by omega)).trans ?_) _
    have h_ := blk_set H1.out 0 (.iface ta va)
    simpa using h_
  have h32 : W3.heap[w.heap.size + 1]? = some (.cells #[.slice (some ⟨w.heap.size, 0, none⟩) 1 2] 87 (0, 0)) := by
    rw [hW3]
    exact get_alloc (set_get ((set_far (by omega)).trans H2.out)) _
  have HB3 := Lib.hid hb3
  have H31 := Lib.hid h31
  have H32 := Lib.hid h32
  obtain ⟨d0, d1⟩ := HE.out _ hb3
  have k0 : W3.cell? ⟨w.heap.size + 1, 0, none⟩ = some (.slice (some ⟨w.heap.size, 0, none⟩) 1 2) := (cell_of h32 0).trans rfl
  have k2 : W3.cell? ⟨w.heap.size, 1, none⟩ = some .nilIface := (cell_of h31 1).trans rfl
  have f0 := frozen_of h32 0
  have f2 := frozen_of h31 1
  have hs1 : w.heap.size < W3.heap.size := lt_of_get h31
  have hs2 : w.heap.size + 1 < W3.heap.size := lt_of_get h32
  have hs3 : ga0 < W3.heap.size := by have := hlt.out; omega
  clear hW3 hb3 h31 h32 H1 H2 HB HNE
  rw [rounds_succ]
  go_wp2
  obtain ⟨W4, hW4⟩ : ∃ W4, W4 = ((W3.setCell ⟨w.heap.size, 1, none⟩ (.iface tb vb)).setCell ⟨w.heap.size + 1, 0, none⟩ (.slice (some ⟨w.heap.size, 0, none⟩) 2 2)).alloc (.cells #[.iface tb vb] 23) := ⟨_, rfl⟩
  rw [← hW4]
  clear d0 d1 k0 k2 f0 f2 hs1 hs2 hs3
  have hb4 : Below w.heap.size w W4 := by rw [hW4]; exact ((HB3.out.setCell (Nat.le_refl _) _).setCell (Nat.le_succ _) _).alloc (by have := lt_of_get H31.out; simp; omega) _
  have h41 : W4.heap[w.heap.size]? = some (.cells #[.iface ta va, .iface tb vb] 23 (0, 0)) := by
    rw [hW4]
    refine get_alloc ((set_far (by omega)).trans ?_) _
    have h_ := blk_set H31.out 1 (.iface tb vb)
    simpa using h_
  have h42 : W4.heap[w.heap.size + 1]? = some (.cells #[.slice (some ⟨w.heap.size, 0, none⟩) 2 2] 87 (0, 0)) := by
    rw [hW4]
    exact get_alloc (set_get ((Below.heap_setCell _ _ _ _ (by simp)).trans H32.out)) _
  have HB4 := Lib.hid hb4
  have H41 := Lib.hid h41
  have H42 := Lib.hid h42
  clear hW4 hb4 h41 h42
  rw [rounds_succ]
  go_wp2
  go_ret
  exact ⟨_, _, rfl, HB4.out, H42.out, H41.out⟩
theorem cut5 (s : ByteArray) : ∃ (m : Int) (S : ByteArray), (if 5 < (s.size : Int) then 5 else (s.size : Int)) = m ∧ ∀ w, (Instr.slice 9 (.string s) none (some (.int .i64 m)) none).run Tryd.prog w = .ok (.string S) w := by
  obtain ⟨m, hm⟩ : ∃ m : Int, (if 5 < (s.size : Int) then 5 else (s.size : Int)) = m := ⟨_, rfl⟩
  have hm0 : 0 ≤ m := by rw [← hm]; split <;> omega
  have hm2 : m ≤ (s.size : Int) := by rw [← hm]; split <;> omega
  refine ⟨m, s.extract 0 m.toNat, hm, fun w => ?_⟩
  have hm0c := decide_eq_true hm0
  have hm2c := decide_eq_true hm2
  have hm0b := eq_true hm0
  have hm2b := eq_true hm2
  go_simp
theorem within40 (x : Int) : ∃ k : Nat, k ≤ 40 ∧ MFaultDeep.broadsidebook_Within.f x 0 40 = some (k : Int) := by
  have e1 : wrap64 (wrap64 (40 - 0) + 1) = 41 := by unfold wrap64; omega
  have ha := Int.tmod_lt_of_pos x (b := 41) (by omega)
  have hb : -41 < x.tmod 41 := by
    have := Int.tmod_lt_of_pos (-x) (b := 41) (by omega)
    rw [Int.neg_tmod] at this
    omega
  unfold MFaultDeep.broadsidebook_Within.f
  rw [e1, if_neg (by omega)]
  split
  · refine ⟨(x.tmod 41 + 41).toNat, by omega, ?_⟩
    congr 1
    unfold wrap64
    omega
  · refine ⟨(x.tmod 41).toNat, by omega, ?_⟩
    congr 1
    unfold wrap64
    omega
def Nest (op : ByteArray) (k : Int) : Nat → Err → Prop
  | 0, e => e = .no k
  | i + 1, e => ∃ g e', e = .fault g op i e' ∧ Nest op k i e'
theorem nest_errno {op : ByteArray} {k : Int} : ∀ {i : Nat} {e : Err}, Nest op k i e → e.errno = some k
  | 0, e, h => by subst h; rfl
  | i + 1, e, h => by
    obtain ⟨g, e', rfl, h'⟩ := h
    have := nest_errno h'
    exact this
theorem nest_size {op : ByteArray} {k : Int} : ∀ {i : Nat} {e : Err}, Nest op k i e → e.size = i + 1
  | 0, e, h => by subst h; rfl
  | i + 1, e, h => by obtain ⟨g, e', rfl, h'⟩ := h; simp [Err.size, nest_size h']
theorem nest_place {op : ByteArray} {k : Int} {i : Nat} {e : Err} (h : Nest op k i e) : e.place = (i : Int) - 1 := by
  cases i with
  | zero => subst h; rfl
  | succ i => obtain ⟨g, e', rfl, h'⟩ := h; simp [Err.place, Err.firstF]
theorem nest_texts {op : ByteArray} {k : Int} : ∀ {i n : Nat} {e : Err}, Nest op k i e → i ≤ n → texts (e.chain n) = List.replicate i (.string op)
  | 0, n, e, h, hn => by
    subst h
    cases n <;> simp [Err.chain, Err.firstF, texts]
  | i + 1, n, e, h, hn => by
    obtain ⟨g, e', rfl, h'⟩ := h
    obtain ⟨m, rfl⟩ : ∃ m, n = m + 1 := ⟨n - 1, by omega⟩
    have := nest_texts (n := m) h' (by omega)
    simp only [texts] at this
    simp [Err.chain, Err.firstF, texts, List.replicate_succ, this]
theorem nest_val {op : ByteArray} {k : Int} {e : Err} (h : Nest op k 0 e) : e.val = .iface 25 (.int .i64 k) := by subst h; rfl
set_option maxHeartbeats 8000000 in
set_option maxRecDepth 100000 in
theorem fd_calls (n kind : Int) (op : ByteArray) (w : World) (ht : Typ w) : Calls Tryd.prog 6 #[.int .i64 n, .int .i64 kind, .string op] w fun e w' => e = .returned (.bool true) ∧ Below w.heap.size w w' := by
  obtain ⟨k, hk⟩ := within18 kind
  obtain ⟨m, hm40, hm⟩ := within40 n
  obtain ⟨m5, S, hm5, hcut⟩ := cut5 op
  have HK := Lib.hid hk
  have HM := Lib.hid hm
  have HT := Lib.hid ht
  clear hk ht hm
  go_enter Tryd.func6, Tryd.ntmps6
  go_wp2_with fail
  refine (MFaultDeep.broadsidebook_Within.calls kind 1 8 k _ HK.out).mono ?_
  rintro ev w1 ⟨rfl, hb1⟩
  have HB1 : Hid (Below w.heap.size w w1) := Lib.hid (by have h_ := hb1; first | exact h_ | exact h_.below)
  clear hb1
  go_wp2_with fail
  refine (MFaultDeep.broadsidebook_Within.calls n 0 40 m _ HM.out).mono ?_
  rintro ev w2 ⟨rfl, hb2⟩
  have HB2 : Hid (Below w.heap.size w w2) := Lib.hid (by have h_ := hb2; exact HB1.out.trans (Below.mono (by first | exact h_ | exact h_.below) HB1.out.size))
  clear hb2 HB1
  go_upto_block 0 with (fail)
  clear hcut hm5
  have hok0 : Hid ((Err.no k).ok w2) := Lib.hid trivial
  have hn0 : Hid (Nest S k 0 (.no k)) := Lib.hid rfl
  have hb0 : Hid (Below w2.heap.size w2 w2) := Lib.hid (Below.refl _ _)
  go_cut [9] (fun s9 wc => ∃ e : Err, s9 = e.val ∧ Hid (e.ok wc ∧ Nest S k m e) ∧ Hid (Below w2.heap.size w2 wc))
  case first =>
    go_wp2_with fail
    go_loopw [9, 29] (fun s9 s29 wr => ∃ (i : Nat) (e : Err), i ≤ m ∧ s29 = .int .i64 i ∧ s9 = e.val ∧ Hid (e.ok wr ∧ Nest S k i e) ∧ Hid (Below w2.heap.size w2 wr)) (fun _ s29 _ => m - (intOf s29).toNat)
    case atStart => exact ⟨0, .no k, Nat.zero_le _, rfl, rfl, ⟨hok0.out, hn0.out⟩, hb0⟩
    case round =>
      clear hok0 hn0 hb0
      obtain ⟨i, e, hi, rfl, rfl, HE, HB⟩ := hrel
      obtain ⟨wo, rfl⟩ : ∃ wo : World, wo = wr := ⟨_, rfl⟩
      by_cases him : i < m
      · have hd : decide (i < m) = true := decide_eq_true him
        have HN := Lib.hid (new_any S i e wo)
        have HO := Lib.hid (new_ok S i e wo HE.out.1)
        obtain ⟨ty, v, hv⟩ := e.isIface
        have HV := Lib.hid hv
        rw [hv] at HN HO ⊢
        clear hv
        go_wp2_with (go_at_call 12; refine HN.out.mono ?_; rintro ev w9 ⟨rfl, rfl⟩)
        go_roundw
        case rel => exact ⟨i + 1, .fault wo.heap.size S i e, by omega, by go_num, rfl, ⟨HO.out, wo.heap.size, e, rfl, HE.out.2⟩, HB.out.alloc HB.out.size _⟩
        case measure => simp [intOf]; omega
      · have hd : decide (i < m) = false := decide_eq_false him
        obtain rfl : i = m := by omega
        go_wp2_with fail
        go_meet
        exact ⟨e, rfl, HE, HB⟩
  case rest =>
    clear hok0 hn0 hb0
    obtain ⟨e, rfl, HE, HB⟩ := hcut
    have HBW : Hid (Below w.heap.size w wc) := Lib.hid (HB2.out.trans (HB.out.mono HB2.out.size))
    clear HB2 HB HM HK
    have hTX := nest_texts (n := e.size) HE.out.2 (by rw [nest_size HE.out.2]; omega)
    have hT := trace_any e wc (HT.out.below HBW.out) HE.out.1 (by rw [nest_size HE.out.2]; omega)
    rw [hTX] at hT
    simp only [List.length_replicate] at hT
    have HTR := Lib.hid hT
    have KK : Hid (∀ w', Below wc.heap.size wc w' → Calls Tryd.prog 13 #[e.val] w' fun ev w2 => ev = .returned (.int .i64 k) ∧ Below w'.heap.size w' w2) := Lib.hid (fun w' hb => by
      have h_ := kind_any e w' (HT.out.below (HBW.out.trans (hb.mono HBW.out.size))) (Err.okBelow hb HE.out.1)
      rw [nest_errno HE.out.2] at h_
      exact h_)
    have KP : Hid (∀ w', Below wc.heap.size wc w' → Calls Tryd.prog 16 #[e.val] w' fun ev w2 => ev = .returned (.int .i64 ((m : Int) - 1)) ∧ Below w'.heap.size w' w2) := Lib.hid (fun w' hb => by
      have h_ := place_any e w' (HT.out.below (HBW.out.trans (hb.mono HBW.out.size))) (Err.okBelow hb HE.out.1)
      rw [nest_place HE.out.2] at h_
      exact h_)
    clear hT hTX
    obtain ⟨ty, ve, hve⟩ := e.isIface
    have HVE := Lib.hid hve
    rw [hve] at HTR KK KP ⊢
    clear hve
    have hmm : Hid (wrap64 ((m : Int) - 1) = (m : Int) - 1) := Lib.hid (by unfold wrap64; omega)
    have HB : Hid (Below wc.heap.size wc wc) := Lib.hid (Below.refl _ _)
    go_upto_region 13 with (first
      | (go_at_call 15; refine HTR.out.mono ?_; rintro ev w9 ⟨v, rfl, ho, hb⟩; obtain ⟨AF, cf, rfl, _, hcf, hat⟩ := own_at ho; have HAT := Lib.hid hat; have HBT := Lib.hid hb; have HCF := Lib.hid hcf; clear ho hat hcf; have n_ := Lib.hid (HB.out.trans (hb.mono HB.out.size)); clear HB hb; have HB := n_; clear n_; obtain ⟨wt, rfl⟩ : ∃ wt : World, wt = w9 := ⟨_, rfl⟩; have HQ : Hid (Below wt.heap.size wt wt) := Lib.hid (Below.refl _ _))
      | (go_at_call 13; refine (KK.out _ HB.out).mono ?_; rintro ev w9 ⟨rfl, hb⟩; have q_ := Lib.hid (HQ.out.trans (hb.mono HQ.out.size)); clear HQ; have HQ := q_; clear q_; have n_ := Lib.hid (HB.out.trans (hb.mono HB.out.size)); clear HB hb; have HB := n_; clear n_)
      | (go_at_call 16; refine (KP.out _ HB.out).mono ?_; rintro ev w9 ⟨rfl, hb⟩; have q_ := Lib.hid (HQ.out.trans (hb.mono HQ.out.size)); clear HQ; have HQ := q_; clear q_; have n_ := Lib.hid (HB.out.trans (hb.mono HB.out.size)); clear HB hb; have HB := n_; clear n_))
    obtain ⟨wx, hwx⟩ : ∃ wx, wx = w9 := ⟨_, rfl⟩
    rw [← hwx] at HB HQ ⊢
    clear hwx
    have HOX : Hid (e.ok wx) := Lib.hid (Err.okBelow HB.out HE.out.1)
    have HNX : Hid (Nest S k m e) := Lib.hid HE.out.2
    have HBX : Hid (Below w.heap.size w wx) := Lib.hid (HBW.out.trans (HB.out.mono HBW.out.size))
    have HTX : Hid (Typ wx) := Lib.hid (HT.out.below HBX.out)
    clear KK KP HTR HB HBT HE HBW
    have HB0 : Hid (Below wx.heap.size wx wx) := Lib.hid (Below.refl _ _)
    go_upto_block 2 with (fail)
    go_cut [9] (fun s9 wc => Hid (s9 = .iface 25 (.int .i64 k)) ∧ Hid (Below wx.heap.size wx wc))
    case first =>
      go_wp2_with fail
      go_loopw [9, 12] (fun s9 s12 wr => ∃ (j : Nat) (e : Err), j ≤ m ∧ s12 = .int .i64 ((j : Int) - 1) ∧ s9 = e.val ∧ Hid (e.ok wr ∧ Nest S k j e) ∧ Hid (Below wx.heap.size wx wr)) (fun _ s12 _ => (intOf s12 + 1).toNat)
      case atStart => exact ⟨m, e, Nat.le_refl _, rfl, HVE.out.symm, ⟨HOX.out, HNX.out⟩, HB0⟩
      case round =>
        clear HB0 HOX HNX HVE
        obtain ⟨j, e1, hj, rfl, rfl, HE, HB⟩ := hrel
        obtain ⟨wo, rfl⟩ : ∃ wo : World, wo = wr := ⟨_, rfl⟩
        rcases j with _ | j
        · rw [show ((0 : Nat) : Int) - 1 = -1 by omega]
          have HV : Hid (e1.val = .iface 25 (.int .i64 k)) := Lib.hid (nest_val HE.out.2)
          obtain ⟨ty1, v1, hv1⟩ := e1.isIface
          have HV1 := Lib.hid hv1
          rw [hv1]
          clear hv1
          go_wp2_with fail
          go_meet
          exact ⟨HV1.out.symm.trans HV.out, HB⟩
        · rw [show ((j + 1 : Nat) : Int) - 1 = (j : Int) by omega]
          obtain ⟨g, e2, he1, hn2⟩ := HE.out.2
          subst he1
          have HN2 := Lib.hid hn2
          have HO2 : Hid ((Err.fault g S j e2).ok wo) := Lib.hid HE.out.1
          clear hn2 HE
          have hjm : decide ((0 : Int) ≤ (j : Int)) = true := decide_eq_true (by omega)
          obtain ⟨W2, hW2⟩ : ∃ W2, W2 = wo.alloc (.cells #[.pointer none] 38) := ⟨_, rfl⟩
          have HB2 : Hid (Below wo.heap.size wo W2) := Lib.hid (by rw [hW2]; exact (Below.refl _ _).alloc (Nat.le_refl _) _)
          have HTB : Hid (W2.heap[wo.heap.size]? = some (.cells #[.pointer none] 38 (0, 0))) := Lib.hid (by rw [hW2]; exact get_new wo _)
          have HA : Hid (Calls Tryd.prog 21 #[.iface 38 (.pointer (some ⟨g, 0, none⟩)), .iface 40 (.pointer (some ⟨wo.heap.size, 0, none⟩))] W2 fun ev w' => ev = .returned (.bool true) ∧ ∃ w1, Below W2.heap.size W2 w1 ∧ w' = w1.setCell ⟨wo.heap.size, 0, none⟩ (.pointer (some ⟨g, 0, none⟩))) :=
            Lib.hid (As_fault (.fault g S j e2) W2 wo.heap.size (.pointer none) (HTX.out.below (HB.out.trans (HB2.out.mono HB.out.size))) (Err.okBelow HB2.out HO2.out) HTB.out)
          simp only [Err.val]
          go_upto_region 17 with (fail)
          rw [← hW2]
          clear hW2
          have HLT : Hid (g < wo.heap.size) := Lib.hid (lt_of_get HO2.out.1)
          obtain ⟨tb, htb⟩ : ∃ tb, tb = wo.heap.size := ⟨_, rfl⟩
          rw [← htb] at HA HTB HLT ⊢
          have HTBE := Lib.hid htb
          clear htb
          obtain ⟨ad, rfl, hcl⟩ := HAT.out (m - 1 - j) (.string S) (by rw [List.getElem?_replicate, if_pos (by omega)])
          have HCL := Lib.hid hcl
          clear hcl
          obtain ⟨ty2, v2, hv2⟩ := e2.isIface
          have HV2 := Lib.hid hv2
          have HGF : Hid (wo.heap[g]? = some (.cells #[.string S, .int .i64 j, .iface ty2 v2] 42 (0, 0))) := Lib.hid (by rw [← hv2]; exact HO2.out.1)
          clear hv2
          obtain ⟨q, hq⟩ : ∃ q : Nat, q = m - 1 - j := ⟨_, rfl⟩
          rw [← hq] at HCL
          have hq1 : wrap64 ((m : Int) - 1 - j) = (q : Int) := by unfold wrap64; omega
          have hq2 : (m : Int) - 1 - j = (q : Int) := by omega
          have hq3 : q < m := by omega
          have HQE := Lib.hid hq
          clear hq
          go_wp2_with fail
          refine HA.out.mono ?_
          rintro ev w3 ⟨rfl, w4, hb4, rfl⟩
          have H4 := Lib.hid hb4
          clear hb4
          have h3 := Lib.hid (set_get (v := .pointer (some ⟨g, 0, none⟩)) ((H4.out.block _ (lt_of_get HTB.out)).trans HTB.out))
          have hg3 := Lib.hid ((set_far (v := .pointer (some ⟨g, 0, none⟩)) (Nat.ne_of_lt HLT.out)).trans (((HB2.out.trans (H4.out.mono HB2.out.size)).block _ (lt_of_get HGF.out)).trans HGF.out))
          have HB3 : Hid (Below wo.heap.size wo (w4.setCell ⟨tb, 0, none⟩ (.pointer (some ⟨g, 0, none⟩)))) := Lib.hid ((HB2.out.trans (H4.out.mono HB2.out.size)).setCell (Nat.le_of_eq HTBE.out.symm) _)
          obtain ⟨W3, hW3⟩ : ∃ W3, W3 = w4.setCell ⟨tb, 0, none⟩ (.pointer (some ⟨g, 0, none⟩)) := ⟨_, rfl⟩
          rw [← hW3] at h3 hg3 HB3 ⊢
          clear hW3
          have c0 := (cell_of h3.out 0).trans rfl
          have d1 := (cell_of hg3.out 1).trans rfl
          have c5 := pw_cell_below (HQ.out.trans ((HB.out.trans (HB3.out.mono (HB.out.size))).mono HQ.out.size)) HCL.out
          go_wp2_with (go_at_call 24; refine (unwrap_any g S j (.iface ty2 v2) _ hg3.out).mono ?_; rintro ev w5 ⟨rfl, rfl⟩)
          go_roundw
          case rel => exact ⟨j, e2, by omega, rfl, HV2.out.symm, ⟨Err.okBelow HB3.out HO2.out.2, HN2.out⟩, HB.out.trans (HB3.out.mono HB.out.size)⟩
          case measure => simp [intOf]
    case rest =>
      obtain ⟨H9, HB⟩ := hcut
      rw [H9.out]
      have HBW : Hid (Below w.heap.size w wc) := Lib.hid (HBX.out.trans (HB.out.mono HBX.out.size))
      clear HB0 HOX HNX HBX HTX HB HAT HQ HVE HCF H9 hmm
      go_wp2_with fail
      refine (newE _ wc).mono ?_
      rintro ev w9 ⟨rfl, rfl⟩
      obtain ⟨W1, hW1⟩ : ∃ W1, W1 = wc.alloc (.cells #[.string (⟨#[120]⟩ : ByteArray)] 83) := ⟨_, rfl⟩
      rw [← hW1]
      have hb1 : Below wc.heap.size wc W1 := by rw [hW1]; exact (Below.refl _ _).alloc (Nat.le_refl _) _
      have ho1 : (Err.other wc.heap.size).ok W1 := ⟨_, by rw [hW1]; exact get_new wc _⟩
      have HBW1 := Lib.hid (HBW.out.trans (hb1.mono HBW.out.size))
      clear hW1 hb1 HBW
      generalize wc.heap.size = gx at ho1 ⊢
      have HO1 := Lib.hid ho1
      clear ho1
      go_wp2_with fail
      refine (new_any (⟨#[105, 110]⟩ : ByteArray) 5 (.no k) W1).mono ?_
      rintro ev w9 ⟨rfl, rfl⟩
      simp only [Err.val]
      obtain ⟨W2, hW2⟩ : ∃ W2, W2 = W1.alloc (.cells #[.string (⟨#[105, 110]⟩ : ByteArray), .int .i64 5, .iface 25 (.int .i64 k)] 42) := ⟨_, rfl⟩
      rw [← hW2]
      have hb2 : Below W1.heap.size W1 W2 := by rw [hW2]; exact (Below.refl _ _).alloc (Nat.le_refl _) _
      have hi2 : (Err.fault W1.heap.size (⟨#[105, 110]⟩ : ByteArray) 5 (.no k)).ok W2 := by rw [hW2]; exact new_ok _ _ (.no k) W1 trivial
      have HO2 := Lib.hid (Err.okBelow hb2 HO1.out)
      have HBW2 := Lib.hid (HBW1.out.trans (hb2.mono HBW1.out.size))
      clear hW2 hb2 HBW1 HO1
      generalize W1.heap.size = gi at hi2 ⊢
      have HI2 := Lib.hid hi2
      clear hi2
      go_wp2_with fail
      obtain ⟨W3, hW3⟩ : ∃ W3, W3 = W2.alloc (.cells #[.iface 81 (.pointer (some ⟨gx, 0, none⟩)), .iface 38 (.pointer (some ⟨gi, 0, none⟩))] 23) := ⟨_, rfl⟩
      rw [← hW3]
      have hb3 : Below W2.heap.size W2 W3 := by rw [hW3]; exact (Below.refl _ _).alloc (Nat.le_refl _) _
      have hl3 : W3.heap[W2.heap.size]? = some (.cells #[.iface 81 (.pointer (some ⟨gx, 0, none⟩)), .iface 38 (.pointer (some ⟨gi, 0, none⟩))] 23 (0, 0)) := by rw [hW3]; exact get_new W2 _
      refine (join_two 81 38 _ _ _ W3 hl3).mono ?_
      rintro ev w4 ⟨gj, ga, rfl, hb4, hj1, hj2⟩
      have HJ : Hid ((Err.join gj ga (.other gx) (.fault gi (⟨#[105, 110]⟩ : ByteArray) 5 (.no k))).ok w4) := Lib.hid ⟨hj1, hj2, Err.okBelow (hb3.trans (hb4.mono hb3.size)) HO2.out, Err.okBelow (hb3.trans (hb4.mono hb3.size)) HI2.out⟩
      have HBW4 : Hid (Below w.heap.size w w4) := Lib.hid (HBW2.out.trans ((hb3.trans (hb4.mono hb3.size)).mono HBW2.out.size))
      clear hW3 hb3 hl3 hb4 hj1 hj2 HBW2 HO2 HI2
      go_wp2_with fail
      refine (new_any (⟨#[111, 117, 116]⟩ : ByteArray) 6 (.join gj ga (.other gx) (.fault gi (⟨#[105, 110]⟩ : ByteArray) 5 (.no k))) w4).mono ?_
      rintro ev w9 ⟨rfl, rfl⟩
      simp only [Err.val]
      obtain ⟨W5, hW5⟩ : ∃ W5, W5 = w4.alloc (.cells #[.string (⟨#[111, 117, 116]⟩ : ByteArray), .int .i64 6, .iface 85 (.pointer (some ⟨gj, 0, none⟩))] 42) := ⟨_, rfl⟩
      rw [← hW5]
      have hb5 : Below w4.heap.size w4 W5 := by rw [hW5]; exact (Below.refl _ _).alloc (Nat.le_refl _) _
      have ho5 : (Err.fault w4.heap.size (⟨#[111, 117, 116]⟩ : ByteArray) 6 (.join gj ga (.other gx) (.fault gi (⟨#[105, 110]⟩ : ByteArray) 5 (.no k)))).ok W5 := by rw [hW5]; exact new_ok _ _ (.join gj ga (.other gx) (.fault gi (⟨#[105, 110]⟩ : ByteArray) 5 (.no k))) w4 HJ.out
      have HBW5 := Lib.hid (HBW4.out.trans (hb5.mono HBW4.out.size))
      clear hW5 hb5 HBW4 HJ
      generalize w4.heap.size = go at ho5 ⊢
      have HO5 := Lib.hid ho5
      clear ho5
      go_upto_region 23 with (fail)
      obtain ⟨W, hW⟩ : ∃ W, W = W5.alloc (.cells #[.pointer none] 38) := ⟨_, rfl⟩
      rw [← hW]
      have HB6 : Hid (Below W5.heap.size W5 W) := Lib.hid (by rw [hW]; exact (Below.refl _ _).alloc (Nat.le_refl _) _)
      have HTB : Hid (W.heap[W5.heap.size]? = some (.cells #[.pointer none] 38 (0, 0))) := Lib.hid (by rw [hW]; exact get_new W5 _)
      have HTW : Hid (Typ W) := Lib.hid (HT.out.below (HBW5.out.trans (HB6.out.mono HBW5.out.size)))
      clear hW
      obtain ⟨tb, htb⟩ : ∃ tb, tb = W5.heap.size := ⟨_, rfl⟩
      have HTBE := Lib.hid htb
      rw [← htb] at HTB ⊢
      clear htb
      have eqk := eql_int k k W
      rw [decide_eq_true rfl] at eqk
      have KI : Hid (Calls Tryd.prog 17 #[.iface 38 (.pointer (some ⟨go, 0, none⟩)), .iface 25 (.int .i64 k)] W fun ev w2 => ev = .returned (.bool true) ∧ W = w2) := Lib.hid (by
        have h_ := Is_any _ (.no k) W (Err.okBelow HB6.out HO5.out) trivial
        simp only [Err.is, Err.same, decide_true, Bool.or_true, Bool.true_or, Bool.false_or] at h_
        exact h_)
      have HA : Hid (Calls Tryd.prog 21 #[.iface 38 (.pointer (some ⟨go, 0, none⟩)), .iface 40 (.pointer (some ⟨tb, 0, none⟩))] W fun ev w' => ev = .returned (.bool true) ∧ ∃ w1, Below W.heap.size W w1 ∧ w' = w1.setCell ⟨tb, 0, none⟩ (.pointer (some ⟨go, 0, none⟩))) := Lib.hid (As_fault _ W tb (.pointer none) HTW.out (Err.okBelow HB6.out HO5.out) HTB.out)
      have K2 : Hid (∀ w', Below W5.heap.size W5 w' → Calls Tryd.prog 16 #[.iface 38 (.pointer (some ⟨go, 0, none⟩))] w' fun ev w2 => ev = .returned (.int .i64 6) ∧ Below w'.heap.size w' w2) := Lib.hid (fun w' hb => place_any _ w' (HT.out.below (HBW5.out.trans (hb.mono HBW5.out.size))) (Err.okBelow hb HO5.out))
      have K3 : Hid (∀ w', Below W5.heap.size W5 w' → Calls Tryd.prog 13 #[.iface 38 (.pointer (some ⟨go, 0, none⟩))] w' fun ev w2 => ev = .returned (.int .i64 k) ∧ Below w'.heap.size w' w2) := Lib.hid (fun w' hb => kind_any _ w' (HT.out.below (HBW5.out.trans (hb.mono HBW5.out.size))) (Err.okBelow hb HO5.out))
      have K4 : Hid (∀ w', Below W5.heap.size W5 w' → Calls Tryd.prog 3 #[] w' fun ev w2 => ev = .returned (.bool true) ∧ Below w'.heap.size w' w2) := Lib.hid (fun w' hb => fr_calls w' (HT.out.below (HBW5.out.trans (hb.mono HBW5.out.size))))
      have HGO : Hid (go < tb) := Lib.hid (by have := lt_of_get HO5.out.1; have := HTBE.out; omega)
      have S5 : Hid (Err.ok W5 (.fault go (⟨#[111, 117, 116]⟩ : ByteArray) 6 (.join gj ga (.other gx) (.fault gi (⟨#[105, 110]⟩ : ByteArray) 5 (.no k)))) → W5.heap[go]? = some (.cells #[.string (⟨#[111, 117, 116]⟩ : ByteArray), .int .i64 6, .iface 85 (.pointer (some ⟨gj, 0, none⟩))] 42 (0, 0))) := Lib.hid (fun h => h.1)
      go_wp2_with (first
        | (go_at_call 17; refine KI.out.mono ?_; rintro ev w9 ⟨rfl, rfl⟩)
        | (go_at_call 21; refine HA.out.mono ?_; rintro ev w9 ⟨rfl, w8, hb8, rfl⟩; have h3 := Lib.hid (set_get (v := .pointer (some ⟨go, 0, none⟩)) ((hb8.block _ (lt_of_get HTB.out)).trans HTB.out)); have HB : Hid (Below W5.heap.size W5 (w8.setCell ⟨tb, 0, none⟩ (.pointer (some ⟨go, 0, none⟩)))) := Lib.hid ((HB6.out.trans (hb8.mono HB6.out.size)).setCell (Nat.le_of_eq HTBE.out.symm) _); clear hb8; obtain ⟨W9, hW9⟩ : ∃ W9, W9 = w8.setCell ⟨tb, 0, none⟩ (.pointer (some ⟨go, 0, none⟩)) := ⟨_, rfl⟩; rw [← hW9] at h3 HB ⊢; clear hW9; have c0 := (cell_of h3.out 0).trans rfl; have d1 := (cell_of ((HB.out.block _ (lt_of_get (S5.out HO5.out))).trans (S5.out HO5.out)) 1).trans rfl)
        | (go_at_call 16; refine (K2.out _ HB.out).mono ?_; rintro ev w9 ⟨rfl, hb⟩; have n_ := Lib.hid (HB.out.trans (hb.mono HB.out.size)); clear HB hb; have HB := n_; clear n_)
        | (go_at_call 13; refine (K3.out _ HB.out).mono ?_; rintro ev w9 ⟨rfl, hb⟩; have n_ := Lib.hid (HB.out.trans (hb.mono HB.out.size)); clear HB hb; have HB := n_; clear n_)
        | (go_at_call 3; refine (K4.out _ HB.out).mono ?_; rintro ev w9 ⟨rfl, hb⟩; have n_ := Lib.hid (HB.out.trans (hb.mono HB.out.size)); clear HB hb; have HB := n_; clear n_))
      go_ret
      exact ⟨rfl, HBW5.out.trans (HB.out.mono HBW5.out.size)⟩
end Go.Proofs.YtpkdfjlkhfjlcaaDoor.Er
