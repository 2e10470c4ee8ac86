import Derived.Test.YtfkkefhijhjaaaaDoorGrC
import Derived.Test.YtfkkefhijhjaaaaDoorWLast
import Derived.Test.YtfkkefhijhjaaaaDoorWMore
namespace Go.Proofs.YtfkkefhijhjaaaaDoor.Gr
open Go.RowKit Go.Proofs.YtfkkefhijhjaaaaDoorW.PrintWords Go.Proofs.YtfkkefhijhjaaaaDoorW.PrintLast Go.Proofs.YtfkkefhijhjaaaaDoorW.PrintMore
set_option linter.unusedVariables false
set_option linter.unusedSimpArgs false

theorem R_step {α : Type} {d : Kd α} {e : Nat} {w w1 : World} {base : Nat} {v : Value} {xs : List α} (h : d.R e w base (fun _ => True) v xs) (hb : Below w.heap.size w w1) : d.R e w1 base (fun _ => True) v xs :=
  Kd.R_mono (Kd.R_move (Kd.R_bound h) (fun k hk => hb.block k hk.2.2.1)) (fun _ _ => trivial)
theorem R_low {α : Type} {d : Kd α} {e : Nat} {w : World} {base base' : Nat} {ok : Nat → Prop} {v : Value} {xs : List α} (hb : base' ≤ base) (h : d.R e w base ok v xs) : d.R e w base' ok v xs := by
  obtain ⟨h0, inner, ho, hr⟩ := h
  refine ⟨h0, inner, ?_, hr.imp_ (fun _ _ hp => d.M_lower hb hp)⟩
  obtain ⟨h1, h2⟩ := ho
  refine ⟨h1, ?_⟩
  rcases h2 with h2 | ⟨g, cap, cur, e1, hg, r⟩
  · exact .inl h2
  · exact .inr ⟨g, cap, cur, e1, Nat.le_trans hb hg, r⟩
theorem info3 : (Tryd.prog.info? 3).map (fun i => (i.zero, i.size, i.bytes)) = some (some (.int .i64 0), (Kd.int .i64).sz, 8) := by kernel_rfl
theorem rawNear_len (N : Int) (ls : List (Int × Int)) (b : Int) : (rawNear N ls b).length ≤ ls.length := List.length_filterMap_le _ _
def fm (N b : Int) (l : Int × Int) : Option Int := if okL N l then (if l.1 = b then some l.2 else if l.2 = b then some l.1 else none) else none
theorem rawNear_succ (N : Int) (ls : List (Int × Int)) (b i : Int) (h0 : 0 ≤ i) (h1 : i < (ls.length : Int)) : rawNear N (ls.take (i + 1).toNat) b = rawNear N (ls.take i.toNat) b ++ (fm N b (rd24 ls i)).toList := by
  have e : (i + 1).toNat = i.toNat + 1 := by omega
  have hx : ls[i.toNat]? = some (rd24 ls i) := by
    unfold rd24
    rw [List.getElem?_eq_getElem (by omega), List.getD_eq_getElem?_getD, List.getElem?_eq_getElem (by omega)]; rfl
  rw [e, List.take_add_one, hx]
  unfold rawNear
  rw [List.filterMap_append]
  congr 1
abbrev box27 (w : World) (N : Int) (A : Option Addr) (n c : Nat) : World := w.alloc (Obj.cells #[.int .i64 N, .slice A n c] 27)

set_option maxHeartbeats 8000000 in
set_option maxRecDepth 100000 in
theorem near_calls (N b : Int) (A : Option Addr) (c : Nat) (ls : List (Int × Int)) (w : World) (hr : Kd.C k24 w A ls.length ls) (hc : ls.length ≤ c) (hl : ls.length ≤ 1000000) :
    Calls Tryd.prog 27 #[.agg #[.int .i64 N, .slice A ls.length c], .int .i64 b] w fun e w' => ∃ v, e = .returned v ∧ Kd.R (Kd.int .i64) 3 w' w.heap.size (fun _ => True) v (Go.Lib.compact ((rawNear N ls b).mergeSort fun x y => decide (x ≤ y))) ∧ Below w.heap.size w w' := by
  have F0 := Aside0.mk hr
  clear hr
  have HB := Aside0.mk (Below.refl w.heap.size w)
  go_enter Tryd.func27, Tryd.ntmps27
  go_wp2_with fail
  go_loopw [5, 11] (fun s5 s11 wr => ∃ i : Int, s11 = .int .i64 i ∧ 0 ≤ i ∧ i ≤ (ls.length : Int) ∧ Aside0 (Kd.R (Kd.int .i64) 3 wr (w.heap.size + 1) (fun _ => True) s5 (rawNear N (ls.take i.toNat) b)) ∧ Aside0 (Below (w.heap.size + 1) (w.alloc (Obj.cells #[.int .i64 N, .slice A ls.length c] 27)) wr)) (fun _ s11 _ => ((ls.length : Int) - Go.RowKit.intOf s11).toNat)
  case atStart =>
    refine ⟨0, rfl, by omega, by omega, ⟨?_⟩, ⟨Below.refl _ _⟩⟩
    exact Kd.R_nil _ _ _ _ _
  case round =>
    clear HB
    obtain ⟨i, rfl, i0, il, HO, HW⟩ := hrel
    by_cases h1 : i < (ls.length : Int)
    · have d1 : decide (i < (ls.length : Int)) = true := decide_eq_true h1
      have hB1 := Aside0.mk (show Below w.heap.size w wr from (below_alloc (Below.refl _ _) _).trans (HW.out.mono (by omega)))
      obtain ⟨ad, ea, hx0, hx1⟩ := at_24 (Kd.C_below F0.out hB1.out) i i0 h1
      have p1 := eq_true i0
      have q1 := eq_true h1
      cases ea
      generalize hx : rd24 ls i = x at hx0 hx1
      have HX := Aside0.mk hx
      clear hx
      have BK : (w.alloc (Obj.cells #[.int .i64 N, .slice (some ad) ls.length c] 27)).heap[w.heap.size]? = some (.cells #[.int .i64 N, .slice (some ad) ls.length c] 27 (0, 0)) := heap_alloc_new w _
      have hg0 : wr.cell? ⟨w.heap.size, 0, none⟩ = some (.int .i64 N) := (HW.out.cell (by simp)).trans ((blk_cell BK 0).trans rfl)
      have hg1 : wr.cell? ⟨w.heap.size, 1, none⟩ = some (.slice (some ad) ls.length c) := (HW.out.cell (by simp)).trans ((blk_cell BK 1).trans rfl)
      clear BK
      go_upto_region 5 with (fail)
      have hA := Aside0.mk (below_alloc (Below.refl wr.heap.size wr) (Obj.cells #[.int .i64 x.1, .int .i64 x.2] 24))
      have hL : (wr.alloc (Obj.cells #[.int .i64 x.1, .int .i64 x.2] 24)).heap[wr.heap.size]? = some (.cells #[.int .i64 x.1, .int .i64 x.2] 24 (0, 0)) := heap_alloc_new wr _
      generalize wr.alloc (Obj.cells #[.int .i64 x.1, .int .i64 x.2] 24) = w1 at hA hL ⊢
      have hg2 := pw_cell_below hA.out hg0
      have hg3 := pw_cell_below hA.out hg1
      have hl0 : w1.cell? ⟨wr.heap.size, 0, none⟩ = some (.int .i64 x.1) := (blk_cell hL 0).trans rfl
      have hl1 : w1.cell? ⟨wr.heap.size, 1, none⟩ = some (.int .i64 x.2) := (blk_cell hL 1).trans rfl
      clear hg0 hg1 hx0 hx1 hL
      have HL2 : Aside0 (((rawNear N (ls.take i.toNat) b).length + 1) * 8 ≤ 140737488355328) := ⟨by
        have h1 := rawNear_len N (ls.take i.toNat) b
        have h3 : (ls.take i.toNat).length ≤ ls.length := by rw [List.length_take]; omega
        omega⟩
      go_wp2_with (first | (go_at_call 42; refine (may_calls N x.1 x.2 _ rfl _).mono ?_; rintro e w2 ⟨rfl, hb2⟩; have hl2 := pw_cell_below hb2 hl0; have hl3 := pw_cell_below hb2 hl1; have hq := hA.out.trans (hb2.mono hA.out.size); have HO2 := Aside0.mk (R_step HO.out hq); have HW2 := Aside0.mk (HW.out.trans (hq.mono (by have := HW.out.size; simpa using this))); have HS2 : Aside0 (w.heap.size + 1 ≤ w2.heap.size) := ⟨by have h1 := HW2.out.size; simpa using h1⟩; clear hb2 hl0 hl1 hg2 hg3 hq HO HW hA hB1; by_cases hok : okL N (x.1, x.2) = true; rw [hok]) | (refine Kd.R_append (Kd.int .i64) (w0 := box27 w N (some ad) ls.length c) (w.heap.size + 1) rfl (.tmp 25) (.tmp 28) 44 3 (.int .i64 0) 8 rfl Tryd.underlying44 info3 rfl (by decide) (by omega) u5 (rawNear N (ls.take i.toNat) b) x.2 [.int .i64 x.2] (fun _ => True) (fun _ => False) rfl rfl ?aP (fun _ hk => hk.elim) ?aF ?aO ?aB ?aS ?aL ?_; (case aP => exact rfl); (case aF => exact (fun _ _ => trivial)); (case aO => exact HO2.out); (case aB => exact HW2.out); (case aS => exact HS2.out); (case aL => exact HL2.out); intro v3 w3 hO3 hB3 hg3 hv3; have HO3 := Aside0.mk hO3; have HW3 := Aside0.mk hB3; clear hO3 hB3 hg3 hv3) | (refine Kd.R_append (Kd.int .i64) (w0 := box27 w N (some ad) ls.length c) (w.heap.size + 1) rfl (.tmp 35) (.tmp 38) 44 3 (.int .i64 0) 8 rfl Tryd.underlying44 info3 rfl (by decide) (by omega) u5 (rawNear N (ls.take i.toNat) b) x.1 [.int .i64 x.1] (fun _ => True) (fun _ => False) rfl rfl ?aP (fun _ hk => hk.elim) ?aF ?aO ?aB ?aS ?aL ?_; (case aP => exact rfl); (case aF => exact (fun _ _ => trivial)); (case aO => exact HO2.out); (case aB => exact HW2.out); (case aS => exact HS2.out); (case aL => exact HL2.out); intro v3 w3 hO3 hB3 hg3 hv3; have HO3 := Aside0.mk hO3; have HW3 := Aside0.mk hB3; clear hO3 hB3 hg3 hv3))
      all_goals
        have hs := rawNear_succ N ls b i i0 h1
        rw [HX.out] at hs
        have ok2 : okL N (x.1, x.2) = okL N x := rfl
        have hm : (↑ls.length - RowKit.intOf (Value.int IntKind.i64 (i + 1))).toNat < (↑ls.length - RowKit.intOf (Value.int IntKind.i64 i)).toNat := by
          show ((ls.length : Int) - (i + 1)).toNat < ((ls.length : Int) - i).toNat
          omega
        first
          | (have e : fm N b x = some x.2 := by (unfold fm; simp_all)
             rw [e] at hs
             exact ⟨⟨i + 1, rfl, by omega, by omega, ⟨by rw [hs]; exact HO3.out⟩, HW3⟩, hm⟩)
          | (have e : fm N b x = some x.1 := by (unfold fm; simp_all)
             rw [e] at hs
             exact ⟨⟨i + 1, rfl, by omega, by omega, ⟨by rw [hs]; exact HO3.out⟩, HW3⟩, hm⟩)
          | (have e : fm N b x = none := by (unfold fm; simp_all)
             rw [e] at hs
             exact ⟨⟨i + 1, rfl, by omega, by omega, ⟨by rw [hs]; simpa using HO2.out⟩, HW2⟩, hm⟩)
    · obtain rfl : i = (ls.length : Int) := by omega
      have ht : ls.take ((ls.length : Int)).toNat = ls := by simp
      rw [ht] at HO
      have d1 : decide ((ls.length : Int) < (ls.length : Int)) = false := by simp
      have HL : Aside0 ((rawNear N ls b).length < 1000000000) := ⟨by have := rawNear_len N ls b; omega⟩
      have HLS : Aside0 (((rawNear N ls b).mergeSort fun x y => decide (x ≤ y)).length < 1000000000) := ⟨by rw [List.length_mergeSort]; exact HL.out⟩
      go_wp2_with (first | (go_at_call 56; refine (sort_R HO.out HL.out HW.out).mono ?_; rintro e w2 ⟨rfl, hO2, hB2⟩; have HO2 := Aside0.mk hO2; have HW2 := Aside0.mk hB2; clear hO2 hB2 HO HW) | (go_at_call 57; refine (compact_R HO2.out HLS.out HW2.out).mono ?_; rintro e w3 ⟨v3, rfl, hO3, hB3⟩; have HO3 := Aside0.mk hO3; have HW3 := Aside0.mk hB3; clear hO3 hB3))
      go_ret
      refine ⟨_, rfl, ?_, (below_alloc (Below.refl _ _) _).trans (HW3.out.mono (by omega))⟩
      exact R_low (by omega) HO3.out
end Go.Proofs.YtfkkefhijhjaaaaDoor.Gr
