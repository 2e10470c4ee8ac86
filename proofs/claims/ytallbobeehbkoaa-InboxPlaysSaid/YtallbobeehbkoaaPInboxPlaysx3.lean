-- PRINTED BY print.sh 35421559b90ae4d0a3588c463048766b98c2df88dd9212a6774a882060cdf62d: not written by this session
import Derived.Test.YtallbobeehbkoaaPInboxPlaysx0
import Derived.Test.YtallbobeehbkoaaPInboxPlaysx2
namespace Go.Proofs.Ytallbobeehbkoaa.PInboxPlays
open Go.RowKit Go.Proofs.YtallbobeehbkoaaW.PrintWords Go.Proofs.YtallbobeehbkoaaW.PrintLast Go.Proofs.YtallbobeehbkoaaW.PrintMore
attribute [local go_sem] max2_int min2_int max_two min_two max_three min_three max_four min_four   -- for this text's walks alone
set_option linter.unusedVariables false
set_option linter.unusedSimpArgs false

attribute [local go_sem high] eqA54
-- NOT PRINTED: function 7 (inbox_New)

-- NOT PRINTED: function 8 (inbox_Boxes_Put)

-- NOT PRINTED: function 16 (api_Delivery)

-- NOT PRINTED: function 9 (inbox_Boxes_Look)

-- NOT PRINTED: function 10 (inbox_Boxes_Drain)

-- NOT PRINTED: function 11 (inbox_Boxes_All)

-- NOT PRINTED: function 3 (broadsidelaw18_InboxRuns)

/-! ### broadsidebook_Within: function 12 -/
def broadsidebook_Within.f (a0 : Int) (a1 : Int) (a2 : Int) : Option (Int) := if (wrap64 ((wrap64 (a2 - a1)) + 1)) = 0 then (none) else (if (Int.tmod a0 (wrap64 ((wrap64 (a2 - a1)) + 1))) < 0 then (some (wrap64 (a1 + (wrap64 ((wrap64 ((wrap64 ((Int.tmod a0 (wrap64 ((wrap64 (a2 - a1)) + 1))) + a2)) - a1)) + 1))))) else (some (wrap64 (a1 + (Int.tmod a0 (wrap64 ((wrap64 (a2 - a1)) + 1)))))))
set_option maxHeartbeats 8000000 in
set_option maxRecDepth 100000 in
theorem broadsidebook_Within.calls (a0 : Int) (a1 : Int) (a2 : Int) (r : Int) (w : World) (h : broadsidebook_Within.f a0 a1 a2 = some r) :
    Calls Try.prog 12 #[.int .i64 a0, .int .i64 a1, .int .i64 a2] w fun e w' => e = .returned (.int .i64 r) ∧ Drawn0 w w' := by
  have H : (if (wrap64 ((wrap64 (a2 - a1)) + 1)) = 0 then (none) else (if (Int.tmod a0 (wrap64 ((wrap64 (a2 - a1)) + 1))) < 0 then (some (wrap64 (a1 + (wrap64 ((wrap64 ((wrap64 ((Int.tmod a0 (wrap64 ((wrap64 (a2 - a1)) + 1))) + a2)) - a1)) + 1))))) else (some (wrap64 (a1 + (Int.tmod a0 (wrap64 ((wrap64 (a2 - a1)) + 1)))))))) = some r := h
  clear h
  by_cases c4 : (wrap64 ((wrap64 (a2 - a1)) + 1)) = 0
  · rw [if_pos c4] at H
    exact absurd H (by simp)
  · rw [if_neg c4] at H
    have c4b0 : ((wrap64 ((wrap64 (a2 - a1)) + 1)) == 0) = false := beq_eq_false_iff_ne.mpr c4
    have c4b1 : ((wrap64 ((wrap64 (a2 - a1)) + 1)) != 0) = true := bne_iff_ne.mpr c4
    by_cases c5 : (Int.tmod a0 (wrap64 ((wrap64 (a2 - a1)) + 1))) < 0
    · rw [if_pos c5] at H
      have c5b0 : decide ((Int.tmod a0 (wrap64 ((wrap64 (a2 - a1)) + 1))) < 0) = true := decide_eq_true c5
      clear c5
      obtain rfl := Option.some.inj H
      go_enter Try.func12, Try.ntmps12
      go_wp2
      go_ret
      exact ⟨by first | rfl | (simp; done) | (simp [*]; done), by repeat (first | exact Drawn0.refl _ | apply Drawn0.step)⟩
    · rw [if_neg c5] at H
      have c5b0 : decide ((Int.tmod a0 (wrap64 ((wrap64 (a2 - a1)) + 1))) < 0) = false := decide_eq_false c5
      clear c5
      obtain rfl := Option.some.inj H
      go_enter Try.func12, Try.ntmps12
      go_wp2
      go_ret
      exact ⟨by first | rfl | (simp; done) | (simp [*]; done), by repeat (first | exact Drawn0.refl _ | apply Drawn0.step)⟩

/-! ### broadsidekeep_Names: function 17 -/
def broadsidekeep_Names.f  : Option (List ByteArray) := some (([(⟨#[97]⟩ : ByteArray), (⟨#[98]⟩ : ByteArray), (⟨#[99]⟩ : ByteArray), (⟨#[100]⟩ : ByteArray), (⟨#[101]⟩ : ByteArray), (⟨#[102]⟩ : ByteArray), (⟨#[103]⟩ : ByteArray)] : List ByteArray))
set_option maxHeartbeats 8000000 in
set_option maxRecDepth 100000 in
theorem broadsidekeep_Names.calls  (r : List ByteArray) (w : World) (h : broadsidekeep_Names.f  = some r) :
    Calls Try.prog 17 #[] w fun e w' => ∃ v0_ : Value, e = .returned (v0_) ∧ Kd.R Kd.string 9 w' w.heap.size (fun _ => True) v0_ r ∧ Below w.heap.size w w' := by
  have HB := Aside0.mk (Below.refl w.heap.size w)
  have H : (some (([(⟨#[97]⟩ : ByteArray), (⟨#[98]⟩ : ByteArray), (⟨#[99]⟩ : ByteArray), (⟨#[100]⟩ : ByteArray), (⟨#[101]⟩ : ByteArray), (⟨#[102]⟩ : ByteArray), (⟨#[103]⟩ : ByteArray)] : List ByteArray))) = some r := h
  clear h
  obtain ⟨y101, hy101⟩ : ∃ y_ : List ByteArray, y_ = (([(⟨#[97]⟩ : ByteArray), (⟨#[98]⟩ : ByteArray), (⟨#[99]⟩ : ByteArray), (⟨#[100]⟩ : ByteArray), (⟨#[101]⟩ : ByteArray), (⟨#[102]⟩ : ByteArray), (⟨#[103]⟩ : ByteArray)] : List ByteArray)) := ⟨_, rfl⟩
  replace H : (some y101) = some r := by first | (rw [hy101]; with_reducible exact H) | (have H2_ := (Option.bind_some _ _).symm.trans H; rw [hy101]; with_reducible exact H2_) | (have H2_ := (Option.bind_some _ _).symm.trans H; with_reducible exact H2_) | with_reducible exact H | (rw [hy101]; exact H) | exact H
  have Ny101 := Aside0.mk hy101
  clear hy101
  obtain rfl := Option.some.inj H
  go_enter Try.func17, Try.ntmps17
  go_wp2_with (first | ((with_reducible refine gate_dst (N := 1) rfl ?_); refine Kd.R_lit Kd.string _ 9 ?hg (N := 1) ?hd (xs := ([(⟨#[97]⟩ : ByteArray), (⟨#[98]⟩ : ByteArray), (⟨#[99]⟩ : ByteArray), (⟨#[100]⟩ : ByteArray), (⟨#[101]⟩ : ByteArray), (⟨#[102]⟩ : ByteArray), (⟨#[103]⟩ : ByteArray)] : List ByteArray)) (inner := [.string (⟨#[97]⟩ : ByteArray), .string (⟨#[98]⟩ : ByteArray), .string (⟨#[99]⟩ : ByteArray), .string (⟨#[100]⟩ : ByteArray), .string (⟨#[101]⟩ : ByteArray), .string (⟨#[102]⟩ : ByteArray), .string (⟨#[103]⟩ : ByteArray)]) (ok := fun _ => True) (okp := fun _ => True) ?hr ?hp (fun _ hk => hk) trivial (Below.refl _ _) (Nat.le_refl _) (by simp) ?_; (case hd => rfl); (case hg => rfl); (case hr => first | (go_simp; done) | (go_simp; rfl)); (case hp => exact (Reps.one (show Kd.M Kd.string _ _ _ (⟨#[97]⟩ : ByteArray) [.string (⟨#[97]⟩ : ByteArray)] from rfl) (Reps.one (show Kd.M Kd.string _ _ _ (⟨#[98]⟩ : ByteArray) [.string (⟨#[98]⟩ : ByteArray)] from rfl) (Reps.one (show Kd.M Kd.string _ _ _ (⟨#[99]⟩ : ByteArray) [.string (⟨#[99]⟩ : ByteArray)] from rfl) (Reps.one (show Kd.M Kd.string _ _ _ (⟨#[100]⟩ : ByteArray) [.string (⟨#[100]⟩ : ByteArray)] from rfl) (Reps.one (show Kd.M Kd.string _ _ _ (⟨#[101]⟩ : ByteArray) [.string (⟨#[101]⟩ : ByteArray)] from rfl) (Reps.one (show Kd.M Kd.string _ _ _ (⟨#[102]⟩ : ByteArray) [.string (⟨#[102]⟩ : ByteArray)] from rfl) (Reps.one (show Kd.M Kd.string _ _ _ (⟨#[103]⟩ : ByteArray) [.string (⟨#[103]⟩ : ByteArray)] from rfl) (Reps.none _ _))))))))); intro v102 w1 ho2 hb hg_ hnew_; clear hg_ hnew_; (first | rw [← Ny101.out] at ho2 | (simp only [Int.reduceToNat] at ho2; rw [← Ny101.out] at ho2)); have n0_ := Aside0.mk (Kd.R_lower ho2 (below_size (by repeat (first | (with_reducible first | exact HB.out | apply below_alloc | apply pw_below_drewN | apply below_drew1) | exact HB.out)))); have n1_ := Aside0.mk (below_step (by repeat (first | (with_reducible first | exact HB.out | apply below_alloc | apply pw_below_drewN | apply below_drew1) | exact HB.out)) hb); clear HB; have HO103 := n0_; have HB := n1_; clear n0_ n1_; clear hb ho2))
  go_ret
  exact ⟨_, by first | rfl | (simp [errW_none, errW_some] <;> rfl) | (simp [*, errW_none, errW_some] <;> rfl), by (with_reducible repeat (first | apply Kd.R_alloc | apply Kd.R_drewN | apply Kd.R_drew)); exact HO103.out, by repeat (first | (with_reducible first | exact HB.out | apply below_alloc | apply pw_below_drewN | apply below_drew1) | exact HB.out)⟩

/-! ### broadsidekeep_texts: function 21 -/
def broadsidekeep_texts.f  : Option (List ByteArray) := some (([(⟨#[]⟩ : ByteArray), (⟨#[120]⟩ : ByteArray), (⟨#[120, 121]⟩ : ByteArray), (⟨#[120, 121, 122]⟩ : ByteArray), (⟨#[120, 122]⟩ : ByteArray), (⟨#[121]⟩ : ByteArray), (⟨#[121, 121]⟩ : ByteArray)] : List ByteArray))
set_option maxHeartbeats 8000000 in
set_option maxRecDepth 100000 in
theorem broadsidekeep_texts.calls  (r : List ByteArray) (w : World) (h : broadsidekeep_texts.f  = some r) :
    Calls Try.prog 21 #[] w fun e w' => ∃ v0_ : Value, e = .returned (v0_) ∧ Kd.R Kd.string 9 w' w.heap.size (fun _ => True) v0_ r ∧ Below w.heap.size w w' := by
  have HB := Aside0.mk (Below.refl w.heap.size w)
  have H : (some (([(⟨#[]⟩ : ByteArray), (⟨#[120]⟩ : ByteArray), (⟨#[120, 121]⟩ : ByteArray), (⟨#[120, 121, 122]⟩ : ByteArray), (⟨#[120, 122]⟩ : ByteArray), (⟨#[121]⟩ : ByteArray), (⟨#[121, 121]⟩ : ByteArray)] : List ByteArray))) = some r := h
  clear h
  obtain ⟨y104, hy104⟩ : ∃ y_ : List ByteArray, y_ = (([(⟨#[]⟩ : ByteArray), (⟨#[120]⟩ : ByteArray), (⟨#[120, 121]⟩ : ByteArray), (⟨#[120, 121, 122]⟩ : ByteArray), (⟨#[120, 122]⟩ : ByteArray), (⟨#[121]⟩ : ByteArray), (⟨#[121, 121]⟩ : ByteArray)] : List ByteArray)) := ⟨_, rfl⟩
  replace H : (some y104) = some r := by first | (rw [hy104]; with_reducible exact H) | (have H2_ := (Option.bind_some _ _).symm.trans H; rw [hy104]; with_reducible exact H2_) | (have H2_ := (Option.bind_some _ _).symm.trans H; with_reducible exact H2_) | with_reducible exact H | (rw [hy104]; exact H) | exact H
  have Ny104 := Aside0.mk hy104
  clear hy104
  obtain rfl := Option.some.inj H
  go_enter Try.func21, Try.ntmps21
  go_wp2_with (first | ((with_reducible refine gate_dst (N := 1) rfl ?_); refine Kd.R_lit Kd.string _ 9 ?hg (N := 1) ?hd (xs := ([(⟨#[]⟩ : ByteArray), (⟨#[120]⟩ : ByteArray), (⟨#[120, 121]⟩ : ByteArray), (⟨#[120, 121, 122]⟩ : ByteArray), (⟨#[120, 122]⟩ : ByteArray), (⟨#[121]⟩ : ByteArray), (⟨#[121, 121]⟩ : ByteArray)] : List ByteArray)) (inner := [.string (⟨#[]⟩ : ByteArray), .string (⟨#[120]⟩ : ByteArray), .string (⟨#[120, 121]⟩ : ByteArray), .string (⟨#[120, 121, 122]⟩ : ByteArray), .string (⟨#[120, 122]⟩ : ByteArray), .string (⟨#[121]⟩ : ByteArray), .string (⟨#[121, 121]⟩ : ByteArray)]) (ok := fun _ => True) (okp := fun _ => True) ?hr ?hp (fun _ hk => hk) trivial (Below.refl _ _) (Nat.le_refl _) (by simp) ?_; (case hd => rfl); (case hg => rfl); (case hr => first | (go_simp; done) | (go_simp; rfl)); (case hp => exact (Reps.one (show Kd.M Kd.string _ _ _ (⟨#[]⟩ : ByteArray) [.string (⟨#[]⟩ : ByteArray)] from rfl) (Reps.one (show Kd.M Kd.string _ _ _ (⟨#[120]⟩ : ByteArray) [.string (⟨#[120]⟩ : ByteArray)] from rfl) (Reps.one (show Kd.M Kd.string _ _ _ (⟨#[120, 121]⟩ : ByteArray) [.string (⟨#[120, 121]⟩ : ByteArray)] from rfl) (Reps.one (show Kd.M Kd.string _ _ _ (⟨#[120, 121, 122]⟩ : ByteArray) [.string (⟨#[120, 121, 122]⟩ : ByteArray)] from rfl) (Reps.one (show Kd.M Kd.string _ _ _ (⟨#[120, 122]⟩ : ByteArray) [.string (⟨#[120, 122]⟩ : ByteArray)] from rfl) (Reps.one (show Kd.M Kd.string _ _ _ (⟨#[121]⟩ : ByteArray) [.string (⟨#[121]⟩ : ByteArray)] from rfl) (Reps.one (show Kd.M Kd.string _ _ _ (⟨#[121, 121]⟩ : ByteArray) [.string (⟨#[121, 121]⟩ : ByteArray)] from rfl) (Reps.none _ _))))))))); intro v105 w1 ho2 hb hg_ hnew_; clear hg_ hnew_; (first | rw [← Ny104.out] at ho2 | (simp only [Int.reduceToNat] at ho2; rw [← Ny104.out] at ho2)); have n0_ := Aside0.mk (Kd.R_lower ho2 (below_size (by repeat (first | (with_reducible first | exact HB.out | apply below_alloc | apply pw_below_drewN | apply below_drew1) | exact HB.out)))); have n1_ := Aside0.mk (below_step (by repeat (first | (with_reducible first | exact HB.out | apply below_alloc | apply pw_below_drewN | apply below_drew1) | exact HB.out)) hb); clear HB; have HO106 := n0_; have HB := n1_; clear n0_ n1_; clear hb ho2))
  go_ret
  exact ⟨_, by first | rfl | (simp [errW_none, errW_some] <;> rfl) | (simp [*, errW_none, errW_some] <;> rfl), by (with_reducible repeat (first | apply Kd.R_alloc | apply Kd.R_drewN | apply Kd.R_drew)); exact HO106.out, by repeat (first | (with_reducible first | exact HB.out | apply below_alloc | apply pw_below_drewN | apply below_drew1) | exact HB.out)⟩

/-! ### broadsidekeep_Value: function 18 -/
def broadsidekeep_Value.f (a0 : Int) : Option (Bool × Int × ByteArray) := if (Go.bits .and .i64 a0 1) = 0 then ((broadsidebook_Within.f (wrap64 (Int.tdiv a0 2)) 0 9).bind fun t108 => (some (false, t108, (⟨#[]⟩ : ByteArray)))) else ((broadsidekeep_texts.f).bind fun t109 => ((broadsidebook_Within.f (wrap64 (Int.tdiv a0 2)) 0 6).bind fun t112 => (if 0 ≤ t112 then (if t112 < (t109.length : Int) then (some (true, 0, rdOf ByteArray.empty t109 t112)) else (none)) else (none))))
set_option maxHeartbeats 8000000 in
set_option maxRecDepth 100000 in
theorem broadsidekeep_Value.calls (a0 : Int) (r1 : Bool) (r2 : Int) (r3 : ByteArray) (w : World) (h : broadsidekeep_Value.f a0 = some (r1, r2, r3)) :
    Calls Try.prog 18 #[.int .i64 a0] w fun e w' => e = .returned (.agg #[.bool r1, .int .i64 r2, .string r3]) ∧ Below w.heap.size w w' := by
  have hu50 := Try.underlying50
  have HB := Aside0.mk (Below.refl w.heap.size w)
  have H : (if (Go.bits .and .i64 a0 1) = 0 then ((broadsidebook_Within.f (wrap64 (Int.tdiv a0 2)) 0 9).bind fun t108 => (some (false, t108, (⟨#[]⟩ : ByteArray)))) else ((broadsidekeep_texts.f).bind fun t109 => ((broadsidebook_Within.f (wrap64 (Int.tdiv a0 2)) 0 6).bind fun t112 => (if 0 ≤ t112 then (if t112 < (t109.length : Int) then (some (true, 0, rdOf ByteArray.empty t109 t112)) else (none)) else (none))))) = some (r1, r2, r3) := h
  clear h
  by_cases c2 : (Go.bits .and .i64 a0 1) = 0
  · rw [if_pos c2] at H
    have c2b0 : ((Go.bits .and .i64 a0 1) == 0) = true := beq_iff_eq.mpr c2
    have c2b1 : ((Go.bits .and .i64 a0 1) != 0) = false := bne_eq_false_iff_eq.mpr c2
    clear c2
    replace H := Option.bind_eq_some_iff.mp H
    obtain ⟨t108, A30, H⟩ := H
    replace H : (some (false, t108, (⟨#[]⟩ : ByteArray))) = some (r1, r2, r3) := H
    have A3 := Aside0.mk A30
    clear A30
    simp only [Option.some.injEq, Prod.mk.injEq] at H
    obtain ⟨rfl, rfl, rfl⟩ := H
    go_enter Try.func18, Try.ntmps18
    go_wp2_with (first | ((with_reducible refine gate_dst (N := 2) rfl ?_); refine box_event ?hg (N := 2) ?hd (cs := #[.bool false, .int .i64 0, .string (⟨#[]⟩ : ByteArray)]) (t := 50) ?hr ?_; (case hd => rfl); (case hg => rfl); (case hr => first | (go_simp; done) | (go_simp; rfl)); intro gb107 hg w4 hbox hb; have n0_ := Aside0.mk (below_step (by repeat (first | (with_reducible first | exact HB.out | apply below_alloc | apply pw_below_drewN | apply below_drew1) | exact HB.out)) hb); have n1_ := Aside0.mk (hbox); have n2_ := Aside0.mk ((by rw [hg]; exact (below_size (by repeat (first | (with_reducible first | exact HB.out | apply below_alloc | apply pw_below_drewN | apply below_drew1) | exact HB.out))) : w.heap.size ≤ gb107)); have n3_ := Aside0.mk ((by rw [hg]; exact (below_size (by repeat (first | (with_reducible first | exact HB.out | apply below_alloc | apply pw_below_drewN | apply below_drew1) | exact HB.out))) : w.heap.size ≤ gb107)); clear HB; have HB := n0_; have BK107 := n1_; have GW107 := n2_; have GE107 := n3_; clear n0_ n1_ n2_ n3_; clear hb hbox hg) | ((with_reducible refine gate_callee (f := 12) rfl ?_); refine goesL_ (some 8) rfl rfl Try.func12 (by kernel_rfl) rfl #[.int .i64 (wrap64 (Int.tdiv a0 2)), .int .i64 0, .int .i64 9] rfl (by (try simp only [List.map_toArray, List.map_cons, List.map_nil]); first | done | rfl | (simp only [List.length_drop, List.length_take]; rfl)) ?_; (with_reducible refine (broadsidebook_Within.calls (wrap64 (Int.tdiv a0 2)) 0 9 t108 _ A3.out).mono ?_); rintro e w' ⟨rfl, ⟨nd, rfl⟩⟩; refine ⟨_, rfl, ?_⟩; (try (rw [drewN_self w4]; generalize hq_ : World.drewN w4 _ = w4; have n0_ : Aside0 (w4.heap[gb107]? = some (.cells #[.bool false, .int .i64 0, .string (⟨#[]⟩ : ByteArray)] 50 (0, 0))) := ⟨by rw [← hq_]; exact (by (with_reducible repeat (first | refine blk_drewN ?_ _ | refine blk_drew ?_ | refine blk_alloc ?_ _)); exact BK107.out)⟩; have n1_ : Aside0 (Below w.heap.size w w4) := ⟨by rw [← hq_]; exact (by repeat (first | (with_reducible first | exact HB.out | apply below_alloc | apply pw_below_drewN | apply below_drew1 | refine below_set ?_ GE107.out) | exact HB.out))⟩; clear BK107 HB hq_; have BK107 := n0_; have HB := n1_; clear n0_ n1_)); have hcz5_0 : w4.cell? ⟨gb107, 0, none⟩ = some (.bool false) := (blk_cell BK107.out 0).trans rfl; have hcz5_1 : w4.cell? ⟨gb107, 1, none⟩ = some (.int .i64 0) := (blk_cell BK107.out 1).trans rfl; have hcz5_2 : w4.cell? ⟨gb107, 2, none⟩ = some (.string (⟨#[]⟩ : ByteArray)) := (blk_cell BK107.out 2).trans rfl; have hfz5_0 := blk_frozen BK107.out 0; have hfz5_1 := blk_frozen BK107.out 1; have hfz5_2 := blk_frozen BK107.out 2))
    refine bodyPost_ret (results_cell_row rfl _ _ gb107 50 #[.bool false, .int .i64 t108, .string (⟨#[]⟩ : ByteArray)] (0, 0) _ rfl (by (with_reducible repeat (first | refine blk_drewN ?_ _ | refine blk_drew ?_ | refine blk_alloc ?_ _)); refine blk_put (cs := #[.bool false, .int .i64 t108, .string (⟨#[]⟩ : ByteArray)]) ?_ 2 _ rfl; (with_reducible repeat (first | refine blk_drewN ?_ _ | refine blk_drew ?_ | refine blk_alloc ?_ _)); refine blk_put (cs := #[.bool false, .int .i64 0, .string (⟨#[]⟩ : ByteArray)]) ?_ 1 _ rfl; (with_reducible repeat (first | refine blk_drewN ?_ _ | refine blk_drew ?_ | refine blk_alloc ?_ _)); refine blk_put (cs := #[.bool false, .int .i64 0, .string (⟨#[]⟩ : ByteArray)]) ?_ 0 _ rfl; (with_reducible repeat (first | refine blk_drewN ?_ _ | refine blk_drew ?_ | refine blk_alloc ?_ _)); exact BK107.out) Try.underlying50 rfl (by kernel_rfl)) rfl ?_
    exact ⟨by first | rfl | (simp [errW_none, errW_some] <;> rfl) | (simp [*, errW_none, errW_some] <;> rfl), by repeat (first | (with_reducible first | exact HB.out | apply below_alloc | apply pw_below_drewN | apply below_drew1 | refine below_set ?_ GE107.out) | exact HB.out)⟩
  · rw [if_neg c2] at H
    have c2b0 : ((Go.bits .and .i64 a0 1) == 0) = false := beq_eq_false_iff_ne.mpr c2
    have c2b1 : ((Go.bits .and .i64 a0 1) != 0) = true := bne_iff_ne.mpr c2
    replace H := Option.bind_eq_some_iff.mp H
    obtain ⟨t109, A60, H⟩ := H
    replace H : ((broadsidebook_Within.f (wrap64 (Int.tdiv a0 2)) 0 6).bind fun t112 => (if 0 ≤ t112 then (if t112 < (t109.length : Int) then (some (true, 0, rdOf ByteArray.empty t109 t112)) else (none)) else (none))) = some (r1, r2, r3) := H
    have A6 := Aside0.mk A60
    clear A60
    replace H := Option.bind_eq_some_iff.mp H
    obtain ⟨t112, A70, H⟩ := H
    replace H : (if 0 ≤ t112 then (if t112 < (t109.length : Int) then (some (true, 0, rdOf ByteArray.empty t109 t112)) else (none)) else (none)) = some (r1, r2, r3) := H
    have A7 := Aside0.mk A70
    clear A70
    by_cases c8 : 0 ≤ t112
    · rw [if_pos c8] at H
      have c8b0 : decide (0 ≤ t112) = true := decide_eq_true c8
      clear c8
      by_cases c9 : t112 < (t109.length : Int)
      · rw [if_pos c9] at H
        have c9b0 : decide (t112 < (t109.length : Int)) = true := decide_eq_true c9
        clear c9
        simp only [Option.some.injEq, Prod.mk.injEq] at H
        obtain ⟨rfl, rfl, rfl⟩ := H
        go_enter Try.func18, Try.ntmps18
        go_wp2_with (first | ((with_reducible refine gate_dst (N := 2) rfl ?_); refine box_event ?hg (N := 2) ?hd (cs := #[.bool false, .int .i64 0, .string (⟨#[]⟩ : ByteArray)]) (t := 50) ?hr ?_; (case hd => rfl); (case hg => rfl); (case hr => first | (go_simp; done) | (go_simp; rfl)); intro gb107 hg w10 hbox hb; have n0_ := Aside0.mk (below_step (by repeat (first | (with_reducible first | exact HB.out | apply below_alloc | apply pw_below_drewN | apply below_drew1) | exact HB.out)) hb); have n1_ := Aside0.mk (hbox); have n2_ := Aside0.mk ((by rw [hg]; exact (below_size (by repeat (first | (with_reducible first | exact HB.out | apply below_alloc | apply pw_below_drewN | apply below_drew1) | exact HB.out))) : w.heap.size ≤ gb107)); have n3_ := Aside0.mk ((by rw [hg]; exact (below_size (by repeat (first | (with_reducible first | exact HB.out | apply below_alloc | apply pw_below_drewN | apply below_drew1) | exact HB.out))) : w.heap.size ≤ gb107)); clear HB; have HB := n0_; have BK107 := n1_; have GW107 := n2_; have GE107 := n3_; clear n0_ n1_ n2_ n3_; clear hb hbox hg) | ((with_reducible refine gate_callee (f := 21) rfl ?_); refine goesL_ (some 10) rfl rfl Try.func21 (by kernel_rfl) rfl #[] rfl (by (try simp only [List.map_toArray, List.map_cons, List.map_nil]); first | done | rfl | (simp only [List.length_drop, List.length_take]; rfl)) ?_; (with_reducible refine (broadsidekeep_texts.calls  t109 _ A6.out).mono ?_); rintro e w11 ⟨v110, rfl, ho0, hb⟩; refine ⟨_, rfl, ?_⟩; have n0_ := Aside0.mk (Kd.R_lower ho0 (below_size (by repeat (first | (with_reducible first | exact HB.out | apply below_alloc | apply pw_below_drewN | apply below_drew1 | refine below_set ?_ GE107.out) | exact HB.out)))); have n1_ := Aside0.mk (blk_below (g := gb107) (o := .cells #[.bool false, .int .i64 0, .string (⟨#[]⟩ : ByteArray)] 50 (0, 0)) (by (with_reducible repeat (first | refine blk_drewN ?_ _ | refine blk_drew ?_ | refine blk_alloc ?_ _)); exact BK107.out) hb); have n2_ := Aside0.mk (below_step (by repeat (first | (with_reducible first | exact HB.out | apply below_alloc | apply pw_below_drewN | apply below_drew1 | refine below_set ?_ GE107.out) | exact HB.out)) hb); clear BK107; clear HB; have HO111 := n0_; have BK107 := n1_; have HB := n2_; clear n0_ n1_ n2_; (try clear hb); (try clear hb2); (try clear hk); (try clear hi); (try clear ho0)) | ((with_reducible refine gate_callee (f := 12) rfl ?_); refine goesL_ (some 13) rfl rfl Try.func12 (by kernel_rfl) rfl #[.int .i64 (wrap64 (Int.tdiv a0 2)), .int .i64 0, .int .i64 6] rfl (by (try simp only [List.map_toArray, List.map_cons, List.map_nil]); first | done | rfl | (simp only [List.length_drop, List.length_take]; rfl)) ?_; (with_reducible refine (broadsidebook_Within.calls (wrap64 (Int.tdiv a0 2)) 0 6 t112 _ A7.out).mono ?_); rintro e w' ⟨rfl, ⟨nd, rfl⟩⟩; refine ⟨_, rfl, ?_⟩; (try (rw [drewN_self w11]; generalize hq_ : World.drewN w11 _ = w11; have n0_ : Aside0 (Kd.R Kd.string 9 w11 w.heap.size (fun _ => True) v110 t109) := ⟨by rw [← hq_]; exact (by (with_reducible repeat (first | apply Kd.R_alloc | apply Kd.R_drewN | apply Kd.R_drew)); exact HO111.out)⟩; have n1_ : Aside0 (w11.heap[gb107]? = some (.cells #[.bool false, .int .i64 0, .string (⟨#[]⟩ : ByteArray)] 50 (0, 0))) := ⟨by rw [← hq_]; exact (by (with_reducible repeat (first | refine blk_drewN ?_ _ | refine blk_drew ?_ | refine blk_alloc ?_ _)); exact BK107.out)⟩; have n2_ : Aside0 (Below w.heap.size w w11) := ⟨by rw [← hq_]; exact (by repeat (first | (with_reducible first | exact HB.out | apply below_alloc | apply pw_below_drewN | apply below_drew1 | refine below_set ?_ GE107.out) | exact HB.out))⟩; clear HO111 BK107 HB hq_; have HO111 := n0_; have BK107 := n1_; have HB := n2_; clear n0_ n1_ n2_)); obtain ⟨Ao12, co12, eo12⟩ := Kd.R_slice HO111.out; subst eo12; have p113 : 0 ≤ (t112 : Int) := of_decide_eq_true (by first | (with_reducible assumption) | assumption); have q113 : t112 < (t109.length : Int) := of_decide_eq_true (by first | (with_reducible assumption) | assumption); obtain ⟨ad113, e113, hx113_0⟩ := Kd.at_string (Kd.R_reads' HO111.out).2.2 t112 p113 q113; cases e113; replace p113 := eq_true p113; replace q113 := eq_true q113; have hcz13_0 : w11.cell? ⟨gb107, 0, none⟩ = some (.bool false) := (blk_cell BK107.out 0).trans rfl; have hcz13_1 : w11.cell? ⟨gb107, 1, none⟩ = some (.int .i64 0) := (blk_cell BK107.out 1).trans rfl; have hcz13_2 : w11.cell? ⟨gb107, 2, none⟩ = some (.string (⟨#[]⟩ : ByteArray)) := (blk_cell BK107.out 2).trans rfl; have hfz13_0 := blk_frozen BK107.out 0; have hfz13_1 := blk_frozen BK107.out 1; have hfz13_2 := blk_frozen BK107.out 2))
        refine bodyPost_ret (results_cell_row rfl _ _ gb107 50 #[.bool true, .int .i64 0, .string (rdOf ByteArray.empty t109 t112)] (0, 0) _ rfl (by (with_reducible repeat (first | refine blk_drewN ?_ _ | refine blk_drew ?_ | refine blk_alloc ?_ _)); refine blk_put (cs := #[.bool true, .int .i64 0, .string (⟨#[]⟩ : ByteArray)]) ?_ 2 _ rfl; (with_reducible repeat (first | refine blk_drewN ?_ _ | refine blk_drew ?_ | refine blk_alloc ?_ _)); refine blk_put (cs := #[.bool true, .int .i64 0, .string (⟨#[]⟩ : ByteArray)]) ?_ 1 _ rfl; (with_reducible repeat (first | refine blk_drewN ?_ _ | refine blk_drew ?_ | refine blk_alloc ?_ _)); refine blk_put (cs := #[.bool false, .int .i64 0, .string (⟨#[]⟩ : ByteArray)]) ?_ 0 _ rfl; (with_reducible repeat (first | refine blk_drewN ?_ _ | refine blk_drew ?_ | refine blk_alloc ?_ _)); exact BK107.out) Try.underlying50 rfl (by kernel_rfl)) rfl ?_
        exact ⟨by first | rfl | (simp [errW_none, errW_some] <;> rfl) | (simp [*, errW_none, errW_some] <;> rfl), by repeat (first | (with_reducible first | exact HB.out | apply below_alloc | apply pw_below_drewN | apply below_drew1 | refine below_set ?_ GE107.out) | exact HB.out)⟩
      · rw [if_neg c9] at H
        exact absurd H (by simp)
    · rw [if_neg c8] at H
      exact absurd H (by simp)

/-! ### broadsidekeep_pick: function 19 -/
def broadsidekeep_pick.f (l0 : List Int) (a1 : Int) : Option (Int) := if (l0.length : Int) = 0 then (some 0) else (if 0 ≤ (Int.tmod a1 (l0.length : Int)) then (if (Int.tmod a1 (l0.length : Int)) < (l0.length : Int) then (some (rd l0 (Int.tmod a1 (l0.length : Int)))) else (none)) else (none))
set_option maxHeartbeats 8000000 in
set_option maxRecDepth 100000 in
theorem broadsidekeep_pick.calls (A0 : Option Addr) (c0 : Nat) (l0 : List Int) (a1 : Int) (r : Int) (w : World) (hr0 : Kd.C (Kd.int .i64) w A0 l0.length l0) (hc0 : l0.length ≤ c0) (h : broadsidekeep_pick.f l0 a1 = some r) :
    Calls Try.prog 19 #[.slice A0 l0.length c0, .int .i64 a1] w fun e w' => e = .returned (.int .i64 r) ∧ Drawn0 w w' := by
  have HR0 := Aside0.mk hr0
  have HC0 := Aside0.mk hc0
  clear hr0 hc0
  have H : (if (l0.length : Int) = 0 then (some 0) else (if 0 ≤ (Int.tmod a1 (l0.length : Int)) then (if (Int.tmod a1 (l0.length : Int)) < (l0.length : Int) then (some (rd l0 (Int.tmod a1 (l0.length : Int)))) else (none)) else (none))) = some r := h
  clear h
  by_cases c3 : (l0.length : Int) = 0
  · rw [if_pos c3] at H
    have c3b0 : ((l0.length : Int) == 0) = true := beq_iff_eq.mpr c3
    have c3b1 : ((l0.length : Int) != 0) = false := bne_eq_false_iff_eq.mpr c3
    clear c3
    obtain rfl := Option.some.inj H
    go_enter Try.func19, Try.ntmps19
    go_wp2
    go_ret
    exact ⟨by first | rfl | (simp; done) | (simp [*]; done), by repeat (first | exact Drawn0.refl _ | apply Drawn0.step)⟩
  · rw [if_neg c3] at H
    have c3b0 : ((l0.length : Int) == 0) = false := beq_eq_false_iff_ne.mpr c3
    have c3b1 : ((l0.length : Int) != 0) = true := bne_iff_ne.mpr c3
    have c3b2 : ¬ (l0 = []) := fun h_ => c3 (by rw [h_]; rfl)
    obtain ⟨ji4, hji4⟩ : ∃ j_ : Int, (Int.tmod a1 (l0.length : Int)) = j_ := ⟨_, rfl⟩
    replace H : (if 0 ≤ (ji4) then (if (ji4) < (l0.length : Int) then (some (rd l0 (ji4))) else (none)) else (none)) = some r := by first | (rw [hji4] at H; exact H) | (simp only [hji4] at H ⊢; exact H)
    by_cases c5 : 0 ≤ (ji4)
    · rw [if_pos c5] at H
      have c5b0 : decide (0 ≤ (ji4)) = true := decide_eq_true c5
      clear c5
      by_cases c6 : (ji4) < (l0.length : Int)
      · rw [if_pos c6] at H
        have c6b0 : decide ((ji4) < (l0.length : Int)) = true := decide_eq_true c6
        clear c6
        obtain rfl := Option.some.inj H
        have p114 : 0 ≤ ((ji4) : Int) := of_decide_eq_true (by first | (with_reducible assumption) | assumption)
        have q114 : (ji4) < (l0.length : Int) := of_decide_eq_true (by first | (with_reducible assumption) | assumption)
        obtain ⟨ad114, e114, hx114_0⟩ := Kd.at_int HR0.out (ji4) p114 q114
        cases e114
        replace p114 := eq_true p114
        replace q114 := eq_true q114
        go_enter Try.func19, Try.ntmps19
        go_wp2
        go_ret
        exact ⟨by first | rfl | (simp; done) | (simp only [← hji4] <;> (first | rfl | simp)) | (simp [*]; done), by repeat (first | exact Drawn0.refl _ | apply Drawn0.step)⟩
      · rw [if_neg c6] at H
        exact absurd H (by simp)
    · rw [if_neg c5] at H
      exact absurd H (by simp)

/-! ### broadsidekeep_Tuple_Tuple: function 13 -/
mutual
def broadsidekeep_Tuple_Tuple.l0 : Nat → List (S54) → List ByteArray → Int → Int → List Int → List Int → Option ((List (S54)))
  | 0, _, _, _, _, _, _ => none
  | k + 1, x3, x6, x7, x8, x116000, x116001 => if x8 < x7 then (if 0 ≤ x8 then (if x8 < (x6.length : Int) then (if x8 < (x116000.length : Int) then (if (Go.bits .and .i64 (rd x116000 x8) 1) = 1 then (broadsidekeep_Tuple_Tuple.j1 k x3 x8 (rdOf ByteArray.empty x6 x8) x6 x7 x8 (decide ((x3.length : Int) < 5)) x116000 x116001) else (broadsidekeep_Tuple_Tuple.j1 k x3 x8 (rdOf ByteArray.empty x6 x8) x6 x7 x8 false x116000 x116001)) else (broadsidekeep_Tuple_Tuple.j1 k x3 x8 (rdOf ByteArray.empty x6 x8) x6 x7 x8 false x116000 x116001)) else (none)) else (none)) else (some x3)
def broadsidekeep_Tuple_Tuple.j1 : Nat → List (S54) → Int → ByteArray → List ByteArray → Int → Int → Bool → List Int → List Int → Option ((List (S54)))
  | 0, _, _, _, _, _, _, _, _, _ => none
  | k + 1, x3, x4, x5, x6, x7, x8, x31, x116000, x116001 => if x31 = true then ((broadsidekeep_pick.f x116001 x4).bind fun t121 => ((broadsidekeep_Value.f t121).bind fun bt122 => (if x3.length < 2932031007402 then (broadsidekeep_Tuple_Tuple.l0 k (x3 ++ [(⟨x5, (⟨bt122.1, bt122.2.1, bt122.2.2⟩ : S50)⟩ : S54)]) x6 x7 (wrap64 (x8 + 1)) x116000 x116001) else (none)))) else (broadsidekeep_Tuple_Tuple.l0 k x3 x6 x7 (wrap64 (x8 + 1)) x116000 x116001)
end
def broadsidekeep_Tuple_Tuple.f (k : Nat) (l0_0 : List Int) (l0_1 : List Int) : Option ((List (S54))) := (broadsidekeep_Names.f).bind fun t116 => (broadsidekeep_Tuple_Tuple.l0 k ([] : List (S54)) t116 (t116.length : Int) 0 l0_0 l0_1)
theorem broadsidekeep_Tuple_Tuple.mono_l : ∀ k, (∀ y0 y1 y2 y3 y4 y5, LeO (broadsidekeep_Tuple_Tuple.l0 k y0 y1 y2 y3 y4 y5) (broadsidekeep_Tuple_Tuple.l0 (k + 1) y0 y1 y2 y3 y4 y5)) ∧ (∀ y0 y1 y2 y3 y4 y5 y6 y7 y8, LeO (broadsidekeep_Tuple_Tuple.j1 k y0 y1 y2 y3 y4 y5 y6 y7 y8) (broadsidekeep_Tuple_Tuple.j1 (k + 1) y0 y1 y2 y3 y4 y5 y6 y7 y8))
  | 0 => ⟨fun _ _ _ _ _ _ r h => by simp [broadsidekeep_Tuple_Tuple.l0] at h, fun _ _ _ _ _ _ _ _ _ r h => by simp [broadsidekeep_Tuple_Tuple.j1] at h⟩
  | k + 1 => by
    obtain ⟨ih0, ih1⟩ := broadsidekeep_Tuple_Tuple.mono_l k
    refine ⟨?_, ?_⟩
    · intro y0 y1 y2 y3 y4 y5
      unfold broadsidekeep_Tuple_Tuple.l0
      repeat' first
      | (with_reducible exact ih0 _ _ _ _ _ _)
      | (with_reducible exact ih1 _ _ _ _ _ _ _ _ _)
      | (with_reducible exact LeO.refl _)
      | (with_reducible exact LeO.none _)
      | (with_reducible refine LeO.ite ?_ ?_)
      | (with_reducible refine LeO.bind ?_ (fun _ => ?_))
      | exact ih0 _ _ _ _ _ _
      | exact ih1 _ _ _ _ _ _ _ _ _
      | exact LeO.none _
      | refine LeO.ite ?_ ?_
      | refine LeO.bind ?_ (fun _ => ?_)
    · intro y0 y1 y2 y3 y4 y5 y6 y7 y8
      unfold broadsidekeep_Tuple_Tuple.j1
      repeat' first
      | (with_reducible exact ih0 _ _ _ _ _ _)
      | (with_reducible exact ih1 _ _ _ _ _ _ _ _ _)
      | (with_reducible exact LeO.refl _)
      | (with_reducible exact LeO.none _)
      | (with_reducible refine LeO.ite ?_ ?_)
      | (with_reducible refine LeO.bind ?_ (fun _ => ?_))
      | exact ih0 _ _ _ _ _ _
      | exact ih1 _ _ _ _ _ _ _ _ _
      | exact LeO.none _
      | refine LeO.ite ?_ ?_
      | refine LeO.bind ?_ (fun _ => ?_)
theorem broadsidekeep_Tuple_Tuple.mono : ∀ a0 a1 k, LeO (broadsidekeep_Tuple_Tuple.f k a0 a1) (broadsidekeep_Tuple_Tuple.f (k + 1) a0 a1) := by
  intro a0 a1 k
  obtain ⟨ih0, ih1⟩ := broadsidekeep_Tuple_Tuple.mono_l k
  unfold broadsidekeep_Tuple_Tuple.f
  repeat' first
      | (with_reducible exact ih0 _ _ _ _ _ _)
      | (with_reducible exact ih1 _ _ _ _ _ _ _ _ _)
      | (with_reducible exact LeO.refl _)
      | (with_reducible exact LeO.none _)
      | (with_reducible refine LeO.ite ?_ ?_)
      | (with_reducible refine LeO.bind ?_ (fun _ => ?_))
      | exact ih0 _ _ _ _ _ _
      | exact ih1 _ _ _ _ _ _ _ _ _
      | exact LeO.none _
      | refine LeO.ite ?_ ?_
      | refine LeO.bind ?_ (fun _ => ?_)
set_option maxHeartbeats 8000000 in
set_option maxRecDepth 100000 in
theorem broadsidekeep_Tuple_Tuple.calls (k : Nat) (A0_0 : Option Addr) (c0_0 : Nat) (l0_0 : List Int) (A0_1 : Option Addr) (c0_1 : Nat) (l0_1 : List Int) (r : List (S54)) (w : World) (hr0_0 : Kd.C (Kd.int .i64) w A0_0 l0_0.length l0_0) (hc0_0 : l0_0.length ≤ c0_0) (hr0_1 : Kd.C (Kd.int .i64) w A0_1 l0_1.length l0_1) (hc0_1 : l0_1.length ≤ c0_1) (h : broadsidekeep_Tuple_Tuple.f k l0_0 l0_1 = some r) :
    Calls Try.prog 13 #[.agg #[.slice A0_0 l0_0.length c0_0, .slice A0_1 l0_1.length c0_1]] w fun e w' => ∃ v0_ : Value, e = .returned (v0_) ∧ Kd.R k54 54 w' w.heap.size (fun _ => True) v0_ r ∧ Below w.heap.size w w' := by
  have hu36 := Try.underlying36
  have hu54 := Try.underlying54
  have HR0_0 := Aside0.mk hr0_0
  have HC0_0 := Aside0.mk hc0_0
  clear hr0_0 hc0_0
  have HR0_1 := Aside0.mk hr0_1
  have HC0_1 := Aside0.mk hc0_1
  clear hr0_1 hc0_1
  have HB := Aside0.mk (Below.refl w.heap.size w)
  have H : ((broadsidekeep_Names.f).bind fun t116 => (broadsidekeep_Tuple_Tuple.l0 k ([] : List (S54)) t116 (t116.length : Int) 0 l0_0 l0_1)) = some r := h
  clear h
  replace H := Option.bind_eq_some_iff.mp H
  obtain ⟨t116, A20, H⟩ := H
  replace H : (broadsidekeep_Tuple_Tuple.l0 k ([] : List (S54)) t116 (t116.length : Int) 0 l0_0 l0_1) = some r := H
  have A2 := Aside0.mk A20
  clear A20
  have H' := Aside0.mk H
  clear H
  go_enter Try.func13, Try.ntmps13
  go_wp2_with (first | ((with_reducible refine gate_dst (N := 1) rfl ?_); (try (refine gate_guard (by rfl) ?_; dsimp only)); refine box_event ?hg (N := 1) ?hd (cs := #[.slice A0_0 l0_0.length c0_0, .slice A0_1 l0_1.length c0_1]) (t := 36) ?hr ?_; (case hd => rfl); (case hg => rfl); (case hr => first | (go_simp; done) | (go_simp; rfl)); intro gb115 hg w3 hbox hb; have n0_ := Aside0.mk (below_step (by repeat (first | (with_reducible first | exact HB.out | apply below_alloc | apply pw_below_drewN | apply below_drew1) | exact HB.out)) hb); have n1_ := Aside0.mk (hbox); have n2_ := Aside0.mk ((by rw [hg]; exact (below_size (by repeat (first | (with_reducible first | exact HB.out | apply below_alloc | apply pw_below_drewN | apply below_drew1) | exact HB.out))) : w.heap.size ≤ gb115)); have n3_ := Aside0.mk ((by rw [hg]; exact (below_size (by repeat (first | (with_reducible first | exact HB.out | apply below_alloc | apply pw_below_drewN | apply below_drew1) | exact HB.out))) : w.heap.size ≤ gb115)); clear HB; have HB := n0_; have BK115 := n1_; have GW115 := n2_; have GE115 := n3_; clear n0_ n1_ n2_ n3_; clear hb hbox hg) | ((with_reducible refine gate_callee (f := 17) rfl ?_); refine goesL_ (some 6) rfl rfl Try.func17 (by kernel_rfl) rfl #[] rfl (by (try simp only [List.map_toArray, List.map_cons, List.map_nil]); first | done | rfl | (simp only [List.length_drop, List.length_take]; rfl)) ?_; (with_reducible refine (broadsidekeep_Names.calls  t116 _ A2.out).mono ?_); rintro e w4 ⟨v117, rfl, ho0, hb⟩; refine ⟨_, rfl, ?_⟩; have n0_ := Aside0.mk (Kd.R_lower ho0 (below_size (by repeat (first | (with_reducible first | exact HB.out | apply below_alloc | apply pw_below_drewN | apply below_drew1 | refine below_set ?_ GE115.out) | exact HB.out)))); have n1_ := Aside0.mk (blk_below (g := gb115) (o := .cells #[.slice A0_0 l0_0.length c0_0, .slice A0_1 l0_1.length c0_1] 36 (0, 0)) (by (with_reducible repeat (first | refine blk_drewN ?_ _ | refine blk_drew ?_ | refine blk_alloc ?_ _)); exact BK115.out) hb); have n2_ := Aside0.mk (below_step (by repeat (first | (with_reducible first | exact HB.out | apply below_alloc | apply pw_below_drewN | apply below_drew1 | refine below_set ?_ GE115.out) | exact HB.out)) hb); clear BK115; clear HB; have HO118 := n0_; have BK115 := n1_; have HB := n2_; clear n0_ n1_ n2_; (try clear hb); (try clear hb2); (try clear hk); (try clear hi); (try clear ho0); obtain ⟨Ao5, co5, eo5⟩ := Kd.R_slice HO118.out; subst eo5))
  go_loopg [3, 8] k (fun kq v3 v8 w' => ∃ (x3_1 : List (S54)) (x8_1 : Int), v8 = .int .i64 x8_1 ∧ Aside0 (broadsidekeep_Tuple_Tuple.l0 kq x3_1 t116 (t116.length : Int) x8_1 l0_0 l0_1 = some r) ∧ Aside0 (kq ≤ k) ∧ Aside0 (Kd.R k54 54 w' w.heap.size (fun _ => True) v3 x3_1) ∧ Aside0 (Kd.R Kd.string 9 w' w.heap.size (fun _ => True) (.slice Ao5 t116.length co5) t116) ∧ Aside0 (w'.heap[gb115]? = some (.cells #[(.slice A0_0 l0_0.length c0_0), (.slice A0_1 l0_1.length c0_1)] 36 (0, 0))) ∧ Aside0 (Below w.heap.size w w'))
  case atStart => exact ⟨(([] : List (S54))), (0), (by first | rfl | (simp; done) | (simp [*]; done)), H', ⟨Nat.le_refl _⟩, ⟨by first | exact Kd.R_nil _ _ _ _ _ | exact Kd.N_nil _ _ _ _ _ | exact Kd.V_nil _ _ _ _ _ | exact Kd.Q_nil _ _ _ _ _ | exact Kd.S_nil _ _ _ _ _⟩, ⟨by (with_reducible repeat (first | apply Kd.R_alloc | apply Kd.R_drewN | apply Kd.R_drew)); exact HO118.out⟩, ⟨by (with_reducible repeat (first | refine blk_drewN ?_ _ | refine blk_drew ?_ | refine blk_alloc ?_ _)); exact BK115.out⟩, ⟨by repeat (first | (with_reducible first | exact HB.out | apply below_alloc | apply pw_below_drewN | apply below_drew1 | refine below_set ?_ GE115.out) | exact HB.out)⟩⟩
  case round =>
    clear H'
    try clear c1
    try clear p2
    obtain ⟨x3_1, x8_1, rfl, HA, HK1, HO_3, HO_6, BK115, HB⟩ := hrel
    cases gk with
    | zero => exact absurd HA.out (by simp [broadsidekeep_Tuple_Tuple.l0])
    | succ k1 =>
      have H := HA.out
      clear HA
      simp only [broadsidekeep_Tuple_Tuple.l0] at H
      by_cases c6 : x8_1 < (t116.length : Int)
      · rw [if_pos c6] at H
        have c6b0 : decide (x8_1 < (t116.length : Int)) = true := decide_eq_true c6
        clear c6
        by_cases c7 : 0 ≤ x8_1
        · rw [if_pos c7] at H
          have c7b0 : decide (0 ≤ x8_1) = true := decide_eq_true c7
          clear c7
          by_cases c8 : x8_1 < (t116.length : Int)
          · rw [if_pos c8] at H
            have c8b0 : decide (x8_1 < (t116.length : Int)) = true := decide_eq_true c8
            clear c8
            have HC9 := Aside0.mk H
            clear H
            have p119 : 0 ≤ (x8_1 : Int) := of_decide_eq_true (by first | (with_reducible assumption) | assumption)
            have q119 : x8_1 < (t116.length : Int) := of_decide_eq_true (by first | (with_reducible assumption) | assumption)
            obtain ⟨ad119, e119, hx119_0⟩ := Kd.at_string (Kd.R_reads' HO_6.out).2.2 x8_1 p119 q119
            cases e119
            replace p119 := eq_true p119
            replace q119 := eq_true q119
            go_upto_region 5 with (fail)
            go_cut [31] (fun v31 wc => ∃ (kq : Nat) (x31_8 : Bool), v31 = .bool x31_8 ∧ Aside0 (broadsidekeep_Tuple_Tuple.j1 kq x3_1 x8_1 (rdOf ByteArray.empty t116 x8_1) t116 (t116.length : Int) x8_1 x31_8 l0_0 l0_1 = some r) ∧ Aside0 (kq ≤ k1) ∧ Aside0 (Kd.R k54 54 wc w.heap.size (fun _ => True) u3 x3_1) ∧ Aside0 (Kd.R Kd.string 9 wc w.heap.size (fun _ => True) (.slice (some ad119) t116.length co5) t116) ∧ Aside0 (wc.heap[gb115]? = some (.cells #[(.slice A0_0 l0_0.length c0_0), (.slice A0_1 l0_1.length c0_1)] 36 (0, 0))) ∧ Aside0 (Below w.heap.size w wc))
            case first =>
              have H := HC9.out
              clear HC9
              by_cases c10 : x8_1 < (l0_0.length : Int)
              · rw [if_pos c10] at H
                have c10b0 : decide (x8_1 < (l0_0.length : Int)) = true := decide_eq_true c10
                clear c10
                (first | rw [c10b0] | (simp only [i64_w, i32_w]; rw [c10b0]) | skip)
                by_cases c11 : (Go.bits .and .i64 (rd l0_0 x8_1) 1) = 1
                · rw [if_pos c11] at H
                  have c11b0 : ((Go.bits .and .i64 (rd l0_0 x8_1) 1) == 1) = true := beq_iff_eq.mpr c11
                  have c11b1 : ((Go.bits .and .i64 (rd l0_0 x8_1) 1) != 1) = false := bne_eq_false_iff_eq.mpr c11
                  clear c11
                  have H' := Aside0.mk H
                  clear H
                  have hcz12_0 : wr.cell? ⟨gb115, 0, none⟩ = some (.slice A0_0 l0_0.length c0_0) := (blk_cell BK115.out 0).trans rfl
                  have hcz12_1 : wr.cell? ⟨gb115, 1, none⟩ = some (.slice A0_1 l0_1.length c0_1) := (blk_cell BK115.out 1).trans rfl
                  have hfz12_0 := blk_frozen BK115.out 0
                  have hfz12_1 := blk_frozen BK115.out 1
                  have p120 : 0 ≤ (x8_1 : Int) := of_decide_eq_true (by first | (with_reducible assumption) | assumption)
                  have q120 : x8_1 < (l0_0.length : Int) := of_decide_eq_true (by first | (with_reducible assumption) | assumption)
                  obtain ⟨ad120, e120, hx120_0⟩ := Kd.at_int HR0_0.out x8_1 p120 q120
                  cases e120
                  replace hx120_0 := (HB.out.cell (World.block_lt_of_cell? w _ hx120_0)).trans hx120_0
                  replace p120 := eq_true p120
                  replace q120 := eq_true q120
                  obtain ⟨Ao13, co13, eo13⟩ := Kd.R_slice HO_3.out
                  subst eo13
                  go_wp2
                  go_meet
                  case rel => exact ⟨_, (decide ((x3_1.length : Int) < 5)), (by first | rfl | (simp; done) | (simp [*]; done)), H', ⟨by have := HK1.out; first | omega | exact Nat.le_refl _⟩, ⟨by (with_reducible repeat (first | apply Kd.R_alloc | apply Kd.R_drewN | apply Kd.R_drew)); exact HO_3.out⟩, ⟨by (with_reducible repeat (first | apply Kd.R_alloc | apply Kd.R_drewN | apply Kd.R_drew)); exact HO_6.out⟩, ⟨by (with_reducible repeat (first | refine blk_drewN ?_ _ | refine blk_drew ?_ | refine blk_alloc ?_ _)); exact BK115.out⟩, ⟨by repeat (first | (with_reducible first | exact HB.out | apply below_alloc | apply pw_below_drewN | apply below_drew1 | refine below_set ?_ GE115.out) | exact HB.out)⟩⟩
                · rw [if_neg c11] at H
                  have c11b0 : ((Go.bits .and .i64 (rd l0_0 x8_1) 1) == 1) = false := beq_eq_false_iff_ne.mpr c11
                  have c11b1 : ((Go.bits .and .i64 (rd l0_0 x8_1) 1) != 1) = true := bne_iff_ne.mpr c11
                  have H' := Aside0.mk H
                  clear H
                  have hcz14_0 : wr.cell? ⟨gb115, 0, none⟩ = some (.slice A0_0 l0_0.length c0_0) := (blk_cell BK115.out 0).trans rfl
                  have hcz14_1 : wr.cell? ⟨gb115, 1, none⟩ = some (.slice A0_1 l0_1.length c0_1) := (blk_cell BK115.out 1).trans rfl
                  have hfz14_0 := blk_frozen BK115.out 0
                  have hfz14_1 := blk_frozen BK115.out 1
                  have p120 : 0 ≤ (x8_1 : Int) := of_decide_eq_true (by first | (with_reducible assumption) | assumption)
                  have q120 : x8_1 < (l0_0.length : Int) := of_decide_eq_true (by first | (with_reducible assumption) | assumption)
                  obtain ⟨ad120, e120, hx120_0⟩ := Kd.at_int HR0_0.out x8_1 p120 q120
                  cases e120
                  replace hx120_0 := (HB.out.cell (World.block_lt_of_cell? w _ hx120_0)).trans hx120_0
                  replace p120 := eq_true p120
                  replace q120 := eq_true q120
                  go_wp2
                  go_meet
                  case rel => exact ⟨_, (false), (by first | rfl | (simp; done) | (simp [*]; done)), H', ⟨by have := HK1.out; first | omega | exact Nat.le_refl _⟩, ⟨by (with_reducible repeat (first | apply Kd.R_alloc | apply Kd.R_drewN | apply Kd.R_drew)); exact HO_3.out⟩, ⟨by (with_reducible repeat (first | apply Kd.R_alloc | apply Kd.R_drewN | apply Kd.R_drew)); exact HO_6.out⟩, ⟨by (with_reducible repeat (first | refine blk_drewN ?_ _ | refine blk_drew ?_ | refine blk_alloc ?_ _)); exact BK115.out⟩, ⟨by repeat (first | (with_reducible first | exact HB.out | apply below_alloc | apply pw_below_drewN | apply below_drew1 | refine below_set ?_ GE115.out) | exact HB.out)⟩⟩
              · rw [if_neg c10] at H
                have c10b0 : decide (x8_1 < (l0_0.length : Int)) = false := decide_eq_false c10
                clear c10
                (first | rw [c10b0] | (simp only [i64_w, i32_w]; rw [c10b0]) | skip)
                have H' := Aside0.mk H
                clear H
                have hcz15_0 : wr.cell? ⟨gb115, 0, none⟩ = some (.slice A0_0 l0_0.length c0_0) := (blk_cell BK115.out 0).trans rfl
                have hcz15_1 : wr.cell? ⟨gb115, 1, none⟩ = some (.slice A0_1 l0_1.length c0_1) := (blk_cell BK115.out 1).trans rfl
                have hfz15_0 := blk_frozen BK115.out 0
                have hfz15_1 := blk_frozen BK115.out 1
                go_wp2
                go_meet
                case rel => exact ⟨_, (false), (by first | rfl | (simp; done) | (simp [*]; done)), H', ⟨by have := HK1.out; first | omega | exact Nat.le_refl _⟩, ⟨by (with_reducible repeat (first | apply Kd.R_alloc | apply Kd.R_drewN | apply Kd.R_drew)); exact HO_3.out⟩, ⟨by (with_reducible repeat (first | apply Kd.R_alloc | apply Kd.R_drewN | apply Kd.R_drew)); exact HO_6.out⟩, ⟨by (with_reducible repeat (first | refine blk_drewN ?_ _ | refine blk_drew ?_ | refine blk_alloc ?_ _)); exact BK115.out⟩, ⟨by repeat (first | (with_reducible first | exact HB.out | apply below_alloc | apply pw_below_drewN | apply below_drew1 | refine below_set ?_ GE115.out) | exact HB.out)⟩⟩
            case rest =>
              clear HC9
              try clear c1
              try clear p1
              try clear q1
              try clear hx1
              try clear p2
              try clear c6
              try clear c6b0
              try clear c7
              try clear c7b0
              try clear c8
              try clear c8b0
              try clear c10
              try clear c10b0
              try clear c11
              try clear c11b0
              try clear c11b1
              try clear p11
              try clear q11
              try clear hx11
              try clear p12
              try clear q12
              try clear hx12
              try clear c13
              try clear hcz12_0
              try clear hcz12_1
              try clear hcz14_0
              try clear hcz14_1
              try clear hcz15_0
              try clear hcz15_1
              try clear hfz12_0
              try clear hfz12_1
              try clear hfz14_0
              try clear hfz14_1
              try clear hfz15_0
              try clear hfz15_1
              try clear hx119_0
              try clear hx120_0
              try clear p119
              try clear p120
              try clear p2
              try clear q119
              try clear q120
              obtain ⟨kq, x31_8, rfl, HA, HJ8, HO_3, HO_6, BK115, HB⟩ := hcut
              cases kq with
              | zero => exact absurd HA.out (by simp [broadsidekeep_Tuple_Tuple.j1])
              | succ kj8 =>
                have H := HA.out
                clear HA
                simp only [broadsidekeep_Tuple_Tuple.j1] at H
                by_cases c16 : x31_8 = true
                · subst c16
                  have H1 : ((broadsidekeep_pick.f l0_1 x8_1).bind fun t121 => ((broadsidekeep_Value.f t121).bind fun bt122 => (if x3_1.length < 2932031007402 then (broadsidekeep_Tuple_Tuple.l0 kj8 (x3_1 ++ [(⟨(rdOf ByteArray.empty t116 x8_1), (⟨bt122.1, bt122.2.1, bt122.2.2⟩ : S50)⟩ : S54)]) t116 (t116.length : Int) (wrap64 (x8_1 + 1)) l0_0 l0_1) else (none)))) = some r := by rw [if_pos rfl] at H; exact H
                  clear H
                  have H := H1
                  clear H1
                  replace H := Option.bind_eq_some_iff.mp H
                  obtain ⟨t121, A170, H⟩ := H
                  replace H : ((broadsidekeep_Value.f t121).bind fun bt122 => (if x3_1.length < 2932031007402 then (broadsidekeep_Tuple_Tuple.l0 kj8 (x3_1 ++ [(⟨(rdOf ByteArray.empty t116 x8_1), (⟨bt122.1, bt122.2.1, bt122.2.2⟩ : S50)⟩ : S54)]) t116 (t116.length : Int) (wrap64 (x8_1 + 1)) l0_0 l0_1) else (none))) = some r := H
                  have A17 := Aside0.mk A170
                  clear A170
                  replace H := Option.bind_eq_some_iff.mp H
                  obtain ⟨⟨t122, t123, t124⟩, A180, H⟩ := H
                  replace H : (if x3_1.length < 2932031007402 then (broadsidekeep_Tuple_Tuple.l0 kj8 (x3_1 ++ [(⟨(rdOf ByteArray.empty t116 x8_1), (⟨t122, t123, t124⟩ : S50)⟩ : S54)]) t116 (t116.length : Int) (wrap64 (x8_1 + 1)) l0_0 l0_1) else (none)) = some r := H
                  have A18 := Aside0.mk A180
                  clear A180
                  by_cases c19 : x3_1.length < 2932031007402
                  · rw [if_pos c19] at H
                    have LMc19 := Aside0.mk c19
                    clear c19
                    obtain ⟨y125, hy125⟩ : ∃ y_ : List (S54), y_ = (x3_1 ++ [(⟨(rdOf ByteArray.empty t116 x8_1), (⟨t122, t123, t124⟩ : S50)⟩ : S54)]) := ⟨_, rfl⟩
                    replace H : (broadsidekeep_Tuple_Tuple.l0 kj8 y125 t116 (t116.length : Int) (wrap64 (x8_1 + 1)) l0_0 l0_1) = some r := by first | (rw [hy125]; with_reducible exact H) | (have H2_ := (Option.bind_some _ _).symm.trans H; rw [hy125]; with_reducible exact H2_) | (have H2_ := (Option.bind_some _ _).symm.trans H; with_reducible exact H2_) | with_reducible exact H | (rw [hy125]; exact H) | exact H
                    have Ny125 := Aside0.mk hy125
                    clear hy125
                    have H' := Aside0.mk H
                    clear H
                    have hcz20_0 : wc.cell? ⟨gb115, 0, none⟩ = some (.slice A0_0 l0_0.length c0_0) := (blk_cell BK115.out 0).trans rfl
                    have hcz20_1 : wc.cell? ⟨gb115, 1, none⟩ = some (.slice A0_1 l0_1.length c0_1) := (blk_cell BK115.out 1).trans rfl
                    have hfz20_0 := blk_frozen BK115.out 0
                    have hfz20_1 := blk_frozen BK115.out 1
                    go_wp2_with (first | ((with_reducible refine gate_callee (f := 19) rfl ?_); refine goesL_ (some 37) rfl rfl Try.func19 (by kernel_rfl) rfl #[.slice A0_1 l0_1.length c0_1, .int .i64 x8_1] rfl (by (try simp only [List.map_toArray, List.map_cons, List.map_nil]); first | done | rfl | (simp only [List.length_drop, List.length_take]; rfl)) ?_; (with_reducible refine (broadsidekeep_pick.calls _ _ l0_1 x8_1 t121 _ ?side1 ?side2 A17.out).mono ?_); (case side1 => repeat (first | exact (Kd.C_below HR0_1.out HB.out) | (with_reducible refine Kd.C_alloc ?_ _) | (with_reducible refine Kd.C_drewN ?_ _) | (with_reducible refine Kd.C_drew ?_))); (case side2 => exact HC0_1.out); rintro e w' ⟨rfl, ⟨nd, rfl⟩⟩; refine ⟨_, rfl, ?_⟩) | ((with_reducible refine gate_callee (f := 18) rfl ?_); refine goesL_ (some 38) rfl rfl Try.func18 (by kernel_rfl) rfl #[.int .i64 t121] rfl (by (try simp only [List.map_toArray, List.map_cons, List.map_nil]); first | done | rfl | (simp only [List.length_drop, List.length_take]; rfl)) ?_; (with_reducible refine (broadsidekeep_Value.calls t121 t122 t123 t124 _ A18.out).mono ?_); rintro e w21 ⟨rfl, hb⟩; refine ⟨_, rfl, ?_⟩; have n0_ := Aside0.mk (Kd.R_below (by (with_reducible repeat (first | apply Kd.R_alloc | apply Kd.R_drewN | apply Kd.R_drew)); exact HO_3.out) hb); have n1_ := Aside0.mk (Kd.R_below (by (with_reducible repeat (first | apply Kd.R_alloc | apply Kd.R_drewN | apply Kd.R_drew)); exact HO_6.out) hb); have n2_ := Aside0.mk (blk_below (g := gb115) (o := .cells #[.slice A0_0 l0_0.length c0_0, .slice A0_1 l0_1.length c0_1] 36 (0, 0)) (by (with_reducible repeat (first | refine blk_drewN ?_ _ | refine blk_drew ?_ | refine blk_alloc ?_ _)); exact BK115.out) hb); have n3_ := Aside0.mk (below_step (by repeat (first | (with_reducible first | exact HB.out | apply below_alloc | apply pw_below_drewN | apply below_drew1 | refine below_set ?_ GE115.out) | exact HB.out)) hb); clear HO_3; clear HO_6; clear BK115; clear HB; have HO_3 := n0_; have HO_6 := n1_; have BK115 := n2_; have HB := n3_; clear n0_ n1_ n2_ n3_; (try clear hb); (try clear hb2); (try clear hk); (try clear hi)) | ((with_reducible refine gate_builtin (b := .append) (xs := #[.tmp 32, .tmp 40]) rfl ?_); (try (refine gate_guard (by rfl) ?_; dsimp only)); at_builtin; refine Kd.R_append k54 (w0 := w) w.heap.size rfl (.tmp 32) (.tmp 40) 27 54 (.agg #[(.string ⟨#[]⟩), (.bool false), (.int .i64 0), (.string ⟨#[]⟩)]) 48 rfl Try.underlying27 info54 rfl (by decide) (by omega) u3 x3_1 (⟨(rdOf ByteArray.empty t116 x8_1), (⟨t122, t123, t124⟩ : S50)⟩ : S54) [.string (rdOf ByteArray.empty t116 x8_1), .bool t122, .int .i64 t123, .string t124] (fun _ => True) (fun _ => False) rfl rfl ?aP (fun _ hk => hk.elim) ?aF ?aO ?aB ?aS ?aL ?_; (case aP => exact k54_mkM _ _ _ (⟨(rdOf ByteArray.empty t116 x8_1), (⟨t122, t123, t124⟩ : S50)⟩ : S54)); (case aB => exact (by repeat (first | (with_reducible first | exact HB.out | apply below_alloc | apply pw_below_drewN | apply below_drew1 | refine below_set ?_ GE115.out) | exact HB.out))); (case aF => exact (fun _ _ => trivial)); (case aO => exact (by (with_reducible repeat (first | apply Kd.R_alloc | apply Kd.R_drewN | apply Kd.R_drew)); exact HO_3.out)); (case aS => exact (below_size (by repeat (first | (with_reducible first | exact HB.out | apply below_alloc | apply pw_below_drewN | apply below_drew1 | refine below_set ?_ GE115.out) | exact HB.out)))); (case aL => have := LMc19.out; omega); intro v126 w22 ho hb hg hat; rw [← Ny125.out] at ho; have n0_ := Aside0.mk (Kd.R_over' (by (with_reducible repeat (first | apply Kd.R_alloc | apply Kd.R_drewN | apply Kd.R_drew)); exact HO_6.out) (Kd.R_typed (by (with_reducible repeat (first | apply Kd.R_alloc | apply Kd.R_drewN | apply Kd.R_drew)); exact HO_3.out)) (by decide) hg); have n1_ := Aside0.mk (blk_grown (g := gb115) (o := .cells #[.slice A0_0 l0_0.length c0_0, .slice A0_1 l0_1.length c0_1] 36 (0, 0)) (by (with_reducible repeat (first | refine blk_drewN ?_ _ | refine blk_drew ?_ | refine blk_alloc ?_ _)); exact BK115.out) hg (Kd.R_ne HO_3.out BK115.out (by decide))); have n2_ := Aside0.mk (hb); have n3_ := Aside0.mk (ho); clear HO_6; clear BK115; clear HB; clear HO_3; have HO_6 := n0_; have BK115 := n1_; have HB := n2_; have HO127 := n3_; clear n0_ n1_ n2_ n3_; clear ho hb hg hat))
                    go_roundg kj8
                    case measure => have := HK1.out; have := HJ8.out; omega
                    case rel => exact ⟨(y125), (wrap64 (x8_1 + 1)), (by first | rfl | (simp; done) | (simp [*]; done)), H', ⟨by have := HK1.out; have := HJ8.out; omega⟩, ⟨by (with_reducible repeat (first | apply Kd.R_alloc | apply Kd.R_drewN | apply Kd.R_drew)); exact HO127.out⟩, ⟨by (with_reducible repeat (first | apply Kd.R_alloc | apply Kd.R_drewN | apply Kd.R_drew)); exact HO_6.out⟩, ⟨by (with_reducible repeat (first | refine blk_drewN ?_ _ | refine blk_drew ?_ | refine blk_alloc ?_ _)); exact BK115.out⟩, ⟨by repeat (first | (with_reducible first | exact HB.out | apply below_alloc | apply pw_below_drewN | apply below_drew1 | refine below_set ?_ GE115.out) | exact HB.out)⟩⟩
                  · rw [if_neg c19] at H
                    exact absurd H (by simp)
                · replace c16 := Bool.eq_false_iff.mpr c16
                  subst c16
                  have H1 : (broadsidekeep_Tuple_Tuple.l0 kj8 x3_1 t116 (t116.length : Int) (wrap64 (x8_1 + 1)) l0_0 l0_1) = some r := by rw [if_neg (show ¬ (false = true) by decide)] at H; exact H
                  clear H
                  have H := H1
                  clear H1
                  have H' := Aside0.mk H
                  clear H
                  go_wp2
                  go_roundg kj8
                  case measure => have := HK1.out; have := HJ8.out; omega
                  case rel => exact ⟨(x3_1), (wrap64 (x8_1 + 1)), (by first | rfl | (simp; done) | (simp [*]; done)), H', ⟨by have := HK1.out; have := HJ8.out; omega⟩, ⟨by (with_reducible repeat (first | apply Kd.R_alloc | apply Kd.R_drewN | apply Kd.R_drew)); exact HO_3.out⟩, ⟨by (with_reducible repeat (first | apply Kd.R_alloc | apply Kd.R_drewN | apply Kd.R_drew)); exact HO_6.out⟩, ⟨by (with_reducible repeat (first | refine blk_drewN ?_ _ | refine blk_drew ?_ | refine blk_alloc ?_ _)); exact BK115.out⟩, ⟨by repeat (first | (with_reducible first | exact HB.out | apply below_alloc | apply pw_below_drewN | apply below_drew1 | refine below_set ?_ GE115.out) | exact HB.out)⟩⟩
          · rw [if_neg c8] at H
            exact absurd H (by simp)
        · rw [if_neg c7] at H
          exact absurd H (by simp)
      · rw [if_neg c6] at H
        have c6b0 : decide (x8_1 < (t116.length : Int)) = false := decide_eq_false c6
        clear c6
        obtain rfl := Option.some.inj H
        go_wp2
        go_ret
        exact ⟨_, by first | rfl | (simp [errW_none, errW_some] <;> rfl) | (simp [*, errW_none, errW_some] <;> rfl), by (with_reducible repeat (first | apply Kd.R_alloc | apply Kd.R_drewN | apply Kd.R_drew)); exact HO_3.out, by repeat (first | (with_reducible first | exact HB.out | apply below_alloc | apply pw_below_drewN | apply below_drew1 | refine below_set ?_ GE115.out) | exact HB.out)⟩

/-! ### api_Attr: function 20 -/
def api_Attr.l0 : Nat → List (S54) → List (S54) → Int → Option (Bool)
  | 0, _, _, _ => none
  | k + 1, x0, x1, x5 => if x5 < (x0.length : Int) then (if 0 ≤ x5 then (if x5 < (x1.length : Int) then (if (!((((rd_T54 x0 x5).f0).toList) == (((rd_T54 x1 x5).f0).toList)) || ((!(((rd_T54 x0 x5).f1.f0) == ((rd_T54 x1 x5).f1.f0)) || (!(((rd_T54 x0 x5).f1.f1) == ((rd_T54 x1 x5).f1.f1)) || (!((((rd_T54 x0 x5).f1.f2).toList) == (((rd_T54 x1 x5).f1.f2).toList))))))) = true then (some false) else (api_Attr.l0 k x0 x1 (wrap64 (x5 + 1)))) else (none)) else (none)) else (some true)
def api_Attr.f (k : Nat) (l0 : List (S54)) (l1 : List (S54)) : Option (Bool) := if (l0.length : Int) = (l1.length : Int) then (api_Attr.l0 k l0 l1 0) else (some false)
theorem api_Attr.mono_l : ∀ k, (∀ y0 y1 y2, LeO (api_Attr.l0 k y0 y1 y2) (api_Attr.l0 (k + 1) y0 y1 y2))
  | 0 => fun _ _ _ r h => by simp [api_Attr.l0] at h
  | k + 1 => by
    have ih0 := api_Attr.mono_l k
    · intro y0 y1 y2
      unfold api_Attr.l0
      repeat' first
      | (with_reducible exact ih0 _ _ _)
      | (with_reducible exact LeO.refl _)
      | (with_reducible exact LeO.none _)
      | (with_reducible refine LeO.ite ?_ ?_)
      | (with_reducible refine LeO.bind ?_ (fun _ => ?_))
      | exact ih0 _ _ _
      | exact LeO.none _
      | refine LeO.ite ?_ ?_
      | refine LeO.bind ?_ (fun _ => ?_)
theorem api_Attr.mono : ∀ a0 a1 k, LeO (api_Attr.f k a0 a1) (api_Attr.f (k + 1) a0 a1) := by
  intro a0 a1 k
  have ih0 := api_Attr.mono_l k
  unfold api_Attr.f
  repeat' first
      | (with_reducible exact ih0 _ _ _)
      | (with_reducible exact LeO.refl _)
      | (with_reducible exact LeO.none _)
      | (with_reducible refine LeO.ite ?_ ?_)
      | (with_reducible refine LeO.bind ?_ (fun _ => ?_))
      | exact ih0 _ _ _
      | exact LeO.none _
      | refine LeO.ite ?_ ?_
      | refine LeO.bind ?_ (fun _ => ?_)
set_option maxHeartbeats 8000000 in
set_option maxRecDepth 100000 in
theorem api_Attr.calls (k : Nat) (A0 : Option Addr) (c0 : Nat) (l0 : List (S54)) (A1 : Option Addr) (c1 : Nat) (l1 : List (S54)) (r : Bool) (w : World) (hr0 : Kd.C k54 w A0 l0.length l0) (hc0 : l0.length ≤ c0) (hr1 : Kd.C k54 w A1 l1.length l1) (hc1 : l1.length ≤ c1) (h : api_Attr.f k l0 l1 = some r) :
    Calls Try.prog 20 #[.slice A0 l0.length c0, .slice A1 l1.length c1] w fun e w' => e = .returned (.bool r) ∧ Drawn0 w w' := by
  have hu54 := Try.underlying54
  have HR0 := Aside0.mk hr0
  have HC0 := Aside0.mk hc0
  clear hr0 hc0
  have HR1 := Aside0.mk hr1
  have HC1 := Aside0.mk hc1
  clear hr1 hc1
  have H : (if (l0.length : Int) = (l1.length : Int) then (api_Attr.l0 k l0 l1 0) else (some false)) = some r := h
  clear h
  by_cases c3 : (l0.length : Int) = (l1.length : Int)
  · rw [if_pos c3] at H
    have c3b0 : ((l0.length : Int) == (l1.length : Int)) = true := beq_iff_eq.mpr c3
    have c3b1 : ((l0.length : Int) != (l1.length : Int)) = false := bne_eq_false_iff_eq.mpr c3
    have c3b2 : (l0.length == l1.length) = true := by first | simpa using c3 | (simp at c3 ⊢; omega)
    clear c3
    have H' := Aside0.mk H
    clear H
    go_enter Try.func20, Try.ntmps20
    go_wp2
    repeat (go_quiet (fail); try go_wp2)
    go_loopg [5] k (fun kq v5 w' => ∃ (x5_1 : Int), v5 = .int .i64 x5_1 ∧ Aside0 (api_Attr.l0 kq l0 l1 x5_1 = some r) ∧ Aside0 (kq ≤ k) ∧ Drawn0 w w')
    case atStart => exact ⟨(0), (by first | rfl | (simp; done) | (simp [*]; done)), H', ⟨Nat.le_refl _⟩, by repeat (first | exact Drawn0.refl _ | apply Drawn0.step)⟩
    case round =>
      clear H'
      try clear c1
      try clear c2
      try clear p2
      try clear c3
      try clear c3b0
      try clear c3b1
      try clear c3b2
      obtain ⟨x5_1, rfl, HA, HK1, ⟨m1, rfl⟩⟩ := hrel
      cases gk with
      | zero => exact absurd HA.out (by simp [api_Attr.l0])
      | succ k1 =>
        have H := HA.out
        clear HA
        simp only [api_Attr.l0] at H
        by_cases c4 : x5_1 < (l0.length : Int)
        · rw [if_pos c4] at H
          have c4b0 : decide (x5_1 < (l0.length : Int)) = true := decide_eq_true c4
          clear c4
          by_cases c5 : 0 ≤ x5_1
          · rw [if_pos c5] at H
            have c5b0 : decide (0 ≤ x5_1) = true := decide_eq_true c5
            clear c5
            by_cases c6 : x5_1 < (l1.length : Int)
            · rw [if_pos c6] at H
              have c6b0 : decide (x5_1 < (l1.length : Int)) = true := decide_eq_true c6
              clear c6
              by_cases c7 : (!((((rd_T54 l0 x5_1).f0).toList) == (((rd_T54 l1 x5_1).f0).toList)) || ((!(((rd_T54 l0 x5_1).f1.f0) == ((rd_T54 l1 x5_1).f1.f0)) || (!(((rd_T54 l0 x5_1).f1.f1) == ((rd_T54 l1 x5_1).f1.f1)) || (!((((rd_T54 l0 x5_1).f1.f2).toList) == (((rd_T54 l1 x5_1).f1.f2).toList))))))) = true
              · rw [if_pos c7] at H
                have c7b0 : (!((((rd_T54 l0 x5_1).f0).toList) == (((rd_T54 l1 x5_1).f0).toList)) || ((!(((rd_T54 l0 x5_1).f1.f0) == ((rd_T54 l1 x5_1).f1.f0)) || (!(((rd_T54 l0 x5_1).f1.f1) == ((rd_T54 l1 x5_1).f1.f1)) || (!((((rd_T54 l0 x5_1).f1.f2).toList) == (((rd_T54 l1 x5_1).f1.f2).toList))))))) = true := c7
                clear c7
                obtain rfl := Option.some.inj H
                have p128 : 0 ≤ (x5_1 : Int) := of_decide_eq_true (by first | (with_reducible assumption) | assumption)
                have q128 : x5_1 < (l0.length : Int) := of_decide_eq_true (by first | (with_reducible assumption) | assumption)
                obtain ⟨ad128, e128, hx128_0, hx128_1, hx128_2, hx128_3⟩ := at_T54 HR0.out x5_1 p128 q128
                cases e128
                replace p128 := eq_true p128
                replace q128 := eq_true q128
                have p129 : 0 ≤ (x5_1 : Int) := of_decide_eq_true (by first | (with_reducible assumption) | assumption)
                have q129 : x5_1 < (l1.length : Int) := of_decide_eq_true (by first | (with_reducible assumption) | assumption)
                obtain ⟨ad129, e129, hx129_0, hx129_1, hx129_2, hx129_3⟩ := at_T54 HR1.out x5_1 p129 q129
                cases e129
                replace p129 := eq_true p129
                replace q129 := eq_true q129
                go_wp2
                repeat (go_quiet (fail); try go_wp2)
                go_ret
                exact ⟨by first | rfl | (simp; done) | (simp [*]; done), by repeat (first | exact Drawn0.refl _ | apply Drawn0.step)⟩
              · rw [if_neg c7] at H
                have c7b0 : (!((((rd_T54 l0 x5_1).f0).toList) == (((rd_T54 l1 x5_1).f0).toList)) || ((!(((rd_T54 l0 x5_1).f1.f0) == ((rd_T54 l1 x5_1).f1.f0)) || (!(((rd_T54 l0 x5_1).f1.f1) == ((rd_T54 l1 x5_1).f1.f1)) || (!((((rd_T54 l0 x5_1).f1.f2).toList) == (((rd_T54 l1 x5_1).f1.f2).toList))))))) = false := by simpa using c7
                clear c7
                have H' := Aside0.mk H
                clear H
                have p128 : 0 ≤ (x5_1 : Int) := of_decide_eq_true (by first | (with_reducible assumption) | assumption)
                have q128 : x5_1 < (l0.length : Int) := of_decide_eq_true (by first | (with_reducible assumption) | assumption)
                obtain ⟨ad128, e128, hx128_0, hx128_1, hx128_2, hx128_3⟩ := at_T54 HR0.out x5_1 p128 q128
                cases e128
                replace p128 := eq_true p128
                replace q128 := eq_true q128
                have p129 : 0 ≤ (x5_1 : Int) := of_decide_eq_true (by first | (with_reducible assumption) | assumption)
                have q129 : x5_1 < (l1.length : Int) := of_decide_eq_true (by first | (with_reducible assumption) | assumption)
                obtain ⟨ad129, e129, hx129_0, hx129_1, hx129_2, hx129_3⟩ := at_T54 HR1.out x5_1 p129 q129
                cases e129
                replace p129 := eq_true p129
                replace q129 := eq_true q129
                go_wp2
                repeat (go_quiet (fail); try go_wp2)
                go_roundg k1
                case measure => have := HK1.out; omega
                case rel => exact ⟨(wrap64 (x5_1 + 1)), (by first | rfl | (simp; done) | (simp [*]; done)), H', ⟨by have := HK1.out; omega⟩, by repeat (first | exact Drawn0.refl _ | apply Drawn0.step)⟩
            · rw [if_neg c6] at H
              exact absurd H (by simp)
          · rw [if_neg c5] at H
            exact absurd H (by simp)
        · rw [if_neg c4] at H
          have c4b0 : decide (x5_1 < (l0.length : Int)) = false := decide_eq_false c4
          clear c4
          obtain rfl := Option.some.inj H
          go_wp2
          repeat (go_quiet (fail); try go_wp2)
          go_ret
          exact ⟨by first | rfl | (simp; done) | (simp [*]; done), by repeat (first | exact Drawn0.refl _ | apply Drawn0.step)⟩
  · rw [if_neg c3] at H
    have c3b0 : ((l0.length : Int) == (l1.length : Int)) = false := beq_eq_false_iff_ne.mpr c3
    have c3b1 : ((l0.length : Int) != (l1.length : Int)) = true := bne_iff_ne.mpr c3
    have c3b2 : (l0.length == l1.length) = false := by first | simpa using c3 | (simp at c3 ⊢; omega)
    obtain rfl := Option.some.inj H
    go_enter Try.func20, Try.ntmps20
    go_wp2
    repeat (go_quiet (fail); try go_wp2)
    go_ret
    exact ⟨by first | rfl | (simp; done) | (simp [*]; done), by repeat (first | exact Drawn0.refl _ | apply Drawn0.step)⟩

end Go.Proofs.Ytallbobeehbkoaa.PInboxPlays
