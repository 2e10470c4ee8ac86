-- Written by a program of this session (wip/tools), out of the translation. Not trusted: Lean checks it.
import Derived.Test.YtgdieejhglhkcaaGreatDoorMTupx0
import Derived.Test.YtgdieejhglhkcaaGreatDoorMTupx3
import Derived.Test.YtgdieejhglhkcaaGreatDoorMTupx4
import Derived.Test.YtgdieejhglhkcaaGreatDoorMTupF
namespace Go.Proofs.YtgdieejhglhkcaaGreatDoor.MTup
open Go.RowKit Go.Proofs.YtgdieejhglhkcaaGreatDoorW.PrintWords Go.Proofs.YtgdieejhglhkcaaGreatDoorW.PrintLast Go.Proofs.YtgdieejhglhkcaaGreatDoorW.PrintMore
attribute [local go_sem] max2_int min2_int max_two min_two max_three min_three max_four min_four   -- for this text's walks alone
set_option linter.unusedVariables false
set_option linter.unusedSimpArgs false

-- FOREIGN: function 23 (value_Say)

-- FOREIGN: function 24 (strings_Join)

/-! ### tuple_Say: function 9 -/
def tuple_Say.l0 : Nat → List ByteArray → List (S25) → Int → Int → Option (ByteArray)
  | 0, _, _, _, _ => none
  | k + 1, x3, x6, x7, x8 => if x8 < x7 then (if 0 ≤ x8 then (if x8 < (x6.length : Int) then (if ((rd_T25 x6 x8).f0).size + 1 ≤ 9223372036854775807 then ((value_Say.f ((rd_T25 x6 x8).f1.f0) ((rd_T25 x6 x8).f1.f1) ((rd_T25 x6 x8).f1.f2)).bind fun t157 => (if (((rd_T25 x6 x8).f0) ++ (⟨#[61]⟩ : ByteArray)).size + t157.size ≤ 9223372036854775807 then (if x3.length < 8796093022208 then (tuple_Say.l0 k (x3 ++ [(((rd_T25 x6 x8).f0) ++ (⟨#[61]⟩ : ByteArray)) ++ t157]) x6 x7 (wrap64 (x8 + 1))) else (none)) else (none))) else (none)) else (none)) else (none)) else ((strings_Join.f x3 (⟨#[44]⟩ : ByteArray)).bind fun t161 => (some t161))
def tuple_Say.f (k : Nat) (l0 : List (S25)) : Option (ByteArray) := tuple_Say.l0 k ([] : List ByteArray) l0 (l0.length : Int) 0
theorem tuple_Say.mono_l : ∀ k, (∀ y0 y1 y2 y3, LeO (tuple_Say.l0 k y0 y1 y2 y3) (tuple_Say.l0 (k + 1) y0 y1 y2 y3))
  | 0 => fun _ _ _ _ r h => by simp [tuple_Say.l0] at h
  | k + 1 => by
    have ih0 := tuple_Say.mono_l k
    · intro y0 y1 y2 y3
      unfold tuple_Say.l0
      repeat' first
      | (with_reducible exact ih0 _ _ _ _)
      | (with_reducible exact LeO.refl _)
      | (with_reducible exact LeO.none _)
      | (with_reducible refine LeO.ite ?_ ?_)
      | (with_reducible refine LeO.bind ?_ (fun _ => ?_))
      | exact ih0 _ _ _ _
      | exact LeO.none _
      | refine LeO.ite ?_ ?_
      | refine LeO.bind ?_ (fun _ => ?_)
theorem tuple_Say.mono : ∀ a0 k, LeO (tuple_Say.f k a0) (tuple_Say.f (k + 1) a0) := by
  intro a0 k
  have ih0 := tuple_Say.mono_l k
  unfold tuple_Say.f
  repeat' first
      | (with_reducible exact ih0 _ _ _ _)
      | (with_reducible exact LeO.refl _)
      | (with_reducible exact LeO.none _)
      | (with_reducible refine LeO.ite ?_ ?_)
      | (with_reducible refine LeO.bind ?_ (fun _ => ?_))
      | exact ih0 _ _ _ _
      | exact LeO.none _
      | refine LeO.ite ?_ ?_
      | refine LeO.bind ?_ (fun _ => ?_)
def tuple_Say.T5 : Bool × List (List Nat × List Nat) := (true, [([], []), ([], []), ([1], [1]), ([2], [2]), ([], []), ([4], [4]), ([5], [5]), ([3, 6], [3, 6]), ([7], [7]), ([0, 8, 6], [0, 8]), ([9, 9, 0, 1, 2, 3, 4, 5, 6, 7, 8, 9], [0, 9])])
def tuple_Say.B5 : List Nat := [0, 0, 2, 6, 0, 16, 48, 126, 254, 511, 1023]
theorem tuple_Say.tab5 : rtab .any (opsOf Tryz.f9 5) = tuple_Say.T5 := by kernel_rfl
theorem tuple_Say.bits5 : waitsOk tuple_Say.T5.2 tuple_Say.B5 = true := by kernel_rfl
set_option maxHeartbeats 8000000 in
set_option maxRecDepth 100000 in
theorem tuple_Say.calls (k : Nat) (A0 : Option Addr) (c0 : Nat) (l0 : List (S25)) (r : ByteArray) (w : World) (HTAB : Aside0 (Val.Tab w)) (hr0 : Kd.C k25 w A0 l0.length l0) (hc0 : l0.length ≤ c0) (h : tuple_Say.f k l0 = some r) :
    Calls Tryz.prog 9 #[.slice A0 l0.length c0] w fun e w' => e = .returned (.string r) ∧ Below w.heap.size w w' := by
  have hu25 := Tryz.underlying25
  have hu23 := Tryz.underlying23
  have HR0 := Aside0.mk hr0
  have HC0 := Aside0.mk hc0
  clear hr0 hc0
  have HB := Aside0.mk (Below.refl w.heap.size w)
  have H : (tuple_Say.l0 k ([] : List ByteArray) l0 (l0.length : Int) 0) = some r := h
  clear h
  have H' := Aside0.mk H
  clear H
  go_enter Tryz.func9, Tryz.ntmps9
  go_wp2
  go_loopg [3, 8] k (fun kq v3 v8 w' => ∃ (x3_1 : List ByteArray) (x8_1 : Int), v8 = .int .i64 x8_1 ∧ Aside0 (tuple_Say.l0 kq x3_1 l0 (l0.length : Int) x8_1 = some r) ∧ Aside0 (kq ≤ k) ∧ Aside0 (Kd.R Kd.string 9 w' w.heap.size (fun _ => True) v3 x3_1) ∧ Aside0 (Below w.heap.size w w'))
  case atStart => exact ⟨(([] : List ByteArray)), (0), (by first | rfl | (simp; done) | (simp [*]; done)), H', ⟨Nat.le_refl _⟩, ⟨by first | exact Kd.R_nil _ _ _ _ _ | exact Kd.N_nil _ _ _ _ _ | exact Kd.V_nil _ _ _ _ _ | exact Kd.Q_nil _ _ _ _ _ | exact Kd.S_nil _ _ _ _ _⟩, ⟨by repeat (first | (with_reducible first | exact HB.out | apply below_alloc | apply pw_below_drewN | apply below_drew1) | exact HB.out)⟩⟩
  case round =>
    clear H'
    obtain ⟨x3_1, x8_1, rfl, HA, HK1, HO_3, HB⟩ := hrel
    cases gk with
    | zero => exact absurd HA.out (by simp [tuple_Say.l0])
    | succ k1 =>
      have H := HA.out
      clear HA
      simp only [tuple_Say.l0] at H
      by_cases c2 : x8_1 < (l0.length : Int)
      · rw [if_pos c2] at H
        have c2b0 : decide (x8_1 < (l0.length : Int)) = true := decide_eq_true c2
        clear c2
        by_cases c3 : 0 ≤ x8_1
        · rw [if_pos c3] at H
          have c3b0 : decide (0 ≤ x8_1) = true := decide_eq_true c3
          clear c3
          by_cases c4 : x8_1 < (l0.length : Int)
          · rw [if_pos c4] at H
            have c4b0 : decide (x8_1 < (l0.length : Int)) = true := decide_eq_true c4
            clear c4
            by_cases c5 : ((rd_T25 l0 x8_1).f0).size + 1 ≤ 9223372036854775807
            · rw [if_pos c5] at H
              have c5b0 := eq_true c5
              have c5b1 : decide (((rd_T25 l0 x8_1).f0).size + 1 ≤ 9223372036854775807) = true := decide_eq_true c5
              try have c5b2 : (9223372036854775807 < ((rd_T25 l0 x8_1).f0).size + 1) = False := eq_false (Nat.not_lt.2 c5)
              replace H := Option.bind_eq_some_iff.mp H
              obtain ⟨t157, A60, H⟩ := H
              replace H : (if (((rd_T25 l0 x8_1).f0) ++ (⟨#[61]⟩ : ByteArray)).size + t157.size ≤ 9223372036854775807 then (if x3_1.length < 8796093022208 then (tuple_Say.l0 k1 (x3_1 ++ [(((rd_T25 l0 x8_1).f0) ++ (⟨#[61]⟩ : ByteArray)) ++ t157]) l0 (l0.length : Int) (wrap64 (x8_1 + 1))) else (none)) else (none)) = some r := H
              have A6 := Aside0.mk A60
              clear A60
              by_cases c7 : (((rd_T25 l0 x8_1).f0) ++ (⟨#[61]⟩ : ByteArray)).size + t157.size ≤ 9223372036854775807
              · rw [if_pos c7] at H
                have c7b0 := eq_true c7
                have c7b1 : decide ((((rd_T25 l0 x8_1).f0) ++ (⟨#[61]⟩ : ByteArray)).size + t157.size ≤ 9223372036854775807) = true := decide_eq_true c7
                try have c7b2 : (9223372036854775807 < (((rd_T25 l0 x8_1).f0) ++ (⟨#[61]⟩ : ByteArray)).size + t157.size) = False := eq_false (Nat.not_lt.2 c7)
                have c7b3 : (9223372036854775807 < ((rd_T25 l0 x8_1).f0).size + 1 + t157.size) = False := by
                  have h_ := c7
                  rw [ByteArray.size_append] at h_
                  exact eq_false (Nat.not_lt.2 h_)
                by_cases c8 : x3_1.length < 8796093022208
                · rw [if_pos c8] at H
                  have LMc8 := Aside0.mk c8
                  clear c8
                  obtain ⟨y158, hy158⟩ : ∃ y_ : List ByteArray, y_ = (x3_1 ++ [(((rd_T25 l0 x8_1).f0) ++ (⟨#[61]⟩ : ByteArray)) ++ t157]) := ⟨_, rfl⟩
                  replace H : (tuple_Say.l0 k1 y158 l0 (l0.length : Int) (wrap64 (x8_1 + 1))) = some r := by first | (rw [hy158]; with_reducible exact H) | (have H2_ := (Option.bind_some _ _).symm.trans H; rw [hy158]; with_reducible exact H2_) | (have H2_ := (Option.bind_some _ _).symm.trans H; with_reducible exact H2_) | with_reducible exact H | (rw [hy158]; exact H) | exact H
                  have Ny158 := Aside0.mk hy158
                  clear hy158
                  have H' := Aside0.mk H
                  clear H
                  have p155 : 0 ≤ (x8_1 : Int) := of_decide_eq_true (by first | (with_reducible assumption) | assumption)
                  have q155 : x8_1 < (l0.length : Int) := of_decide_eq_true (by first | (with_reducible assumption) | assumption)
                  obtain ⟨ad155, e155, hx155_0, hx155_1, hx155_2, hx155_3⟩ := at_T25 HR0.out x8_1 p155 q155
                  cases e155
                  replace hx155_0 := (HB.out.cell (World.block_lt_of_cell? w _ hx155_0)).trans hx155_0
                  replace hx155_1 := (HB.out.cell (World.block_lt_of_cell? w _ hx155_1)).trans hx155_1
                  replace hx155_2 := (HB.out.cell (World.block_lt_of_cell? w _ hx155_2)).trans hx155_2
                  replace hx155_3 := (HB.out.cell (World.block_lt_of_cell? w _ hx155_3)).trans hx155_3
                  replace p155 := eq_true p155
                  replace q155 := eq_true q155
                  try go_wp2_with (first | ((with_reducible refine gate_dst (N := 5) rfl ?_); refine box_event ?hg (N := 5) ?hd (cs := #[.string (⟨#[]⟩ : ByteArray), .bool false, .int .i64 0, .string (⟨#[]⟩ : ByteArray)]) (t := 25) ?hr ?_; (case hd => rfl); (case hg => rfl); (case hr => first | (go_simp; done) | (go_simp; rfl)); intro gb156 hg w9 hbox hb; have n0_ := Aside0.mk (Kd.R_below (by (with_reducible repeat (first | apply Kd.R_alloc | apply Kd.R_drewN | apply Kd.R_drew)); exact HO_3.out) hb); have n1_ := Aside0.mk (below_step (by repeat (first | (with_reducible first | exact HB.out | apply below_alloc | apply pw_below_drewN | apply below_drew1) | exact HB.out)) hb); have n2_ := Aside0.mk (hbox); have n3_ := Aside0.mk ((by rw [hg]; exact (below_size (by repeat (first | (with_reducible first | exact HB.out | apply below_alloc | apply pw_below_drewN | apply below_drew1) | exact HB.out))) : w.heap.size ≤ gb156)); have n4_ := Aside0.mk ((by rw [hg]; exact (below_size (by repeat (first | (with_reducible first | exact HB.out | apply below_alloc | apply pw_below_drewN | apply below_drew1) | exact HB.out))) : w.heap.size ≤ gb156)); clear HO_3; clear HB; have HO_3 := n0_; have HB := n1_; have BK156 := n2_; have GW156 := n3_; have GE156 := n4_; clear n0_ n1_ n2_ n3_ n4_; clear hb hbox hg; have hcz10_0 : w9.cell? ⟨gb156, 0, none⟩ = some (.string (⟨#[]⟩ : ByteArray)) := (blk_cell BK156.out 0).trans rfl; have hcz10_1 : w9.cell? ⟨gb156, 1, none⟩ = some (.bool false) := (blk_cell BK156.out 1).trans rfl; have hcz10_2 : w9.cell? ⟨gb156, 2, none⟩ = some (.int .i64 0) := (blk_cell BK156.out 2).trans rfl; have hcz10_3 : w9.cell? ⟨gb156, 3, none⟩ = some (.string (⟨#[]⟩ : ByteArray)) := (blk_cell BK156.out 3).trans rfl; have hfz10_0 := blk_frozen BK156.out 0; have hfz10_1 := blk_frozen BK156.out 1; have hfz10_2 := blk_frozen BK156.out 2; have hfz10_3 := blk_frozen BK156.out 3))
                  have n0_ : Aside0 (Kd.R Kd.string 9 ((((w9.setCell ⟨gb156, 0, none⟩ (.string ((rd_T25 l0 x8_1).f0))).setCell ⟨gb156, 1, none⟩ (.bool ((rd_T25 l0 x8_1).f1.f0))).setCell ⟨gb156, 2, none⟩ (.int .i64 ((rd_T25 l0 x8_1).f1.f1))).setCell ⟨gb156, 3, none⟩ (.string ((rd_T25 l0 x8_1).f1.f2))) w.heap.size (fun _ => True) u3 x3_1) := ⟨by (with_reducible repeat (first | apply Kd.R_alloc | apply Kd.R_drewN | apply Kd.R_drew)); exact Kd.R_mono (Kd.R_far (p := ⟨gb156, 3, none⟩) (Kd.R_far (p := ⟨gb156, 2, none⟩) (Kd.R_far (p := ⟨gb156, 1, none⟩) (Kd.R_far (p := ⟨gb156, 0, none⟩) (Kd.R_types HO_3.out BK156.out (by decide)) (fun _ hk => hk.2) (.string ((rd_T25 l0 x8_1).f0))) (fun _ hk => hk.2) (.bool ((rd_T25 l0 x8_1).f1.f0))) (fun _ hk => hk.2) (.int .i64 ((rd_T25 l0 x8_1).f1.f1))) (fun _ hk => hk.2) (.string ((rd_T25 l0 x8_1).f1.f2))) (fun _ hk => trivial)⟩
                  have n1_ : Aside0 (((((w9.setCell ⟨gb156, 0, none⟩ (.string ((rd_T25 l0 x8_1).f0))).setCell ⟨gb156, 1, none⟩ (.bool ((rd_T25 l0 x8_1).f1.f0))).setCell ⟨gb156, 2, none⟩ (.int .i64 ((rd_T25 l0 x8_1).f1.f1))).setCell ⟨gb156, 3, none⟩ (.string ((rd_T25 l0 x8_1).f1.f2))).heap[gb156]? = some (.cells #[.string ((rd_T25 l0 x8_1).f0), .bool ((rd_T25 l0 x8_1).f1.f0), .int .i64 ((rd_T25 l0 x8_1).f1.f1), .string ((rd_T25 l0 x8_1).f1.f2)] 25 (0, 0))) := ⟨by (with_reducible repeat (first | refine blk_drewN ?_ _ | refine blk_drew ?_ | refine blk_alloc ?_ _)); refine blk_put (cs := #[.string ((rd_T25 l0 x8_1).f0), .bool ((rd_T25 l0 x8_1).f1.f0), .int .i64 ((rd_T25 l0 x8_1).f1.f1), .string (⟨#[]⟩ : ByteArray)]) ?_ 3 _ rfl; (with_reducible repeat (first | refine blk_drewN ?_ _ | refine blk_drew ?_ | refine blk_alloc ?_ _)); refine blk_put (cs := #[.string ((rd_T25 l0 x8_1).f0), .bool ((rd_T25 l0 x8_1).f1.f0), .int .i64 0, .string (⟨#[]⟩ : ByteArray)]) ?_ 2 _ rfl; (with_reducible repeat (first | refine blk_drewN ?_ _ | refine blk_drew ?_ | refine blk_alloc ?_ _)); refine blk_put (cs := #[.string ((rd_T25 l0 x8_1).f0), .bool false, .int .i64 0, .string (⟨#[]⟩ : ByteArray)]) ?_ 1 _ rfl; (with_reducible repeat (first | refine blk_drewN ?_ _ | refine blk_drew ?_ | refine blk_alloc ?_ _)); refine blk_put (cs := #[.string (⟨#[]⟩ : ByteArray), .bool false, .int .i64 0, .string (⟨#[]⟩ : ByteArray)]) ?_ 0 _ rfl; (with_reducible repeat (first | refine blk_drewN ?_ _ | refine blk_drew ?_ | refine blk_alloc ?_ _)); exact BK156.out⟩
                  have n2_ : Aside0 (Below w.heap.size w ((((w9.setCell ⟨gb156, 0, none⟩ (.string ((rd_T25 l0 x8_1).f0))).setCell ⟨gb156, 1, none⟩ (.bool ((rd_T25 l0 x8_1).f1.f0))).setCell ⟨gb156, 2, none⟩ (.int .i64 ((rd_T25 l0 x8_1).f1.f1))).setCell ⟨gb156, 3, none⟩ (.string ((rd_T25 l0 x8_1).f1.f2)))) := ⟨by repeat (first | (with_reducible first | exact HB.out | apply below_alloc | apply pw_below_drewN | apply below_drew1 | refine below_set ?_ GE156.out) | exact HB.out)⟩
                  (try clear HO_3)
                  (try clear BK156)
                  (try clear HB)
                  generalize ((((w9.setCell ⟨gb156, 0, none⟩ (.string ((rd_T25 l0 x8_1).f0))).setCell ⟨gb156, 1, none⟩ (.bool ((rd_T25 l0 x8_1).f1.f0))).setCell ⟨gb156, 2, none⟩ (.int .i64 ((rd_T25 l0 x8_1).f1.f1))).setCell ⟨gb156, 3, none⟩ (.string ((rd_T25 l0 x8_1).f1.f2))) = w11 at n0_ n1_ n2_ ⊢
                  have HO_3 := n0_
                  have BK156 := n1_
                  have HB := n2_
                  clear n0_ n1_ n2_
                  have n0_ := Aside0.mk (Kd.R_drew HO_3.out)
                  have n1_ := Aside0.mk (blk_drew BK156.out)
                  have n2_ := Aside0.mk (below_drew1 HB.out)
                  clear HO_3
                  clear BK156
                  clear HB
                  have HO_3 := n0_
                  have BK156 := n1_
                  have HB := n2_
                  clear n0_ n1_ n2_
                  refine start_ (n := 11) (S := fun w' => w'.cell? ⟨gb156, 0, none⟩ = some (.string ((rd_T25 l0 x8_1).f0)) ∧ w'.cell? ⟨gb156, 1, none⟩ = some (.bool ((rd_T25 l0 x8_1).f1.f0)) ∧ w'.cell? ⟨gb156, 2, none⟩ = some (.int .i64 ((rd_T25 l0 x8_1).f1.f1)) ∧ w'.cell? ⟨gb156, 3, none⟩ = some (.string ((rd_T25 l0 x8_1).f1.f2))) (ds := []) #[false, false, false, false, false, false, false, false, false, false, false] (by kernel_rfl) rfl rfl ⟨(blk_cell BK156.out 0).trans rfl, (blk_cell BK156.out 1).trans rfl, (blk_cell BK156.out 2).trans rfl, (blk_cell BK156.out 3).trans rfl⟩ (fun hHeld => ?_); refine with_tabW tuple_Say.tab5 tuple_Say.bits5 (fun HT_ HW_ => ?_)
                  generalize w11.drew = w12 at HO_3 BK156 HB hHeld ⊢
                  refine pure_ (i := 0) (N := some 12) (v := ?_) (a' := ?_) #[true, false, false, false, false, false, false, false, false, false, false] rfl rfl (any_of HT_.out (by kernel_rfl)) (fun _ _ _ h => h) (Or.inl ⟨by rfl, ?_⟩) ?_ ?_
                  rotate_left
                  · intro w'
                    go_simp
                    with_reducible rfl
                  rotate_left
                  · simp only [Act.put, List.setIfInBounds_toArray, List.set_cons_zero, List.set_cons_succ, i64_w, i32_w]
                    rfl
                  refine pure_ (i := 1) (N := some 13) (v := ?_) (a' := ?_) #[true, true, false, false, false, false, false, false, false, false, false] rfl rfl (any_of HT_.out (by kernel_rfl)) (fun _ _ _ h => h) (Or.inl ⟨by rfl, ?_⟩) ?_ ?_
                  rotate_left
                  · intro w'
                    go_simp
                    with_reducible rfl
                  rotate_left
                  · simp only [Act.put, List.setIfInBounds_toArray, List.set_cons_zero, List.set_cons_succ, i64_w, i32_w]
                    rfl
                  refine pure_ (i := 4) (N := some 16) (v := ?_) (a' := ?_) #[true, true, false, false, true, false, false, false, false, false, false] rfl rfl (any_of HT_.out (by kernel_rfl)) (fun _ _ _ h => h) (Or.inl ⟨by rfl, ?_⟩) ?_ ?_
                  rotate_left
                  · intro w'
                    go_simp
                    with_reducible rfl
                  rotate_left
                  · simp only [Act.put, List.setIfInBounds_toArray, List.set_cons_zero, List.set_cons_succ, i64_w, i32_w]
                    rfl
                  refine take_ (i := 2) (N := some 14) (v := ?_) (a' := ?_) #[true, true, true, false, true, false, false, false, false, false, false] rfl rfl (take_ofW HT_.out HW_.out (by kernel_rfl)) (fun _ _ _ h => h) (Or.inl ⟨by rfl, ?_⟩) hHeld ?_ ?_
                  rotate_left
                  · rintro w' ⟨s0, s1, s2, s3⟩
                    go_simp
                    with_reducible rfl
                  rotate_left
                  · simp only [Act.put, List.setIfInBounds_toArray, List.set_cons_zero, List.set_cons_succ, i64_w, i32_w]
                    rfl
                  refine pure_ (i := 3) (N := some 15) (v := ?_) (a' := ?_) #[true, true, true, true, true, false, false, false, false, false, false] rfl rfl (any_of HT_.out (by kernel_rfl)) (fun _ _ _ h => h) (Or.inl ⟨by rfl, ?_⟩) ?_ ?_
                  rotate_left
                  · intro w'
                    go_simp
                    with_reducible rfl
                  rotate_left
                  · simp only [Act.put, List.setIfInBounds_toArray, List.set_cons_zero, List.set_cons_succ, i64_w, i32_w]
                    rfl
                  refine take_ (i := 5) (N := some 17) (v := ?_) (a' := ?_) #[true, true, true, true, true, true, false, false, false, false, false] rfl rfl (take_ofW HT_.out HW_.out (by kernel_rfl)) (fun _ _ _ h => h) (Or.inl ⟨by rfl, ?_⟩) hHeld ?_ ?_
                  rotate_left
                  · rintro w' ⟨s0, s1, s2, s3⟩
                    go_simp
                    with_reducible rfl
                  rotate_left
                  · simp only [Act.put, List.setIfInBounds_toArray, List.set_cons_zero, List.set_cons_succ, i64_w, i32_w]
                    rfl
                  refine one_ (i := 6) (N := some 18) #[true, true, true, true, true, true, true, false, false, false, false] rfl rfl (one_of HT_.out (by kernel_rfl)) (by decide) (fun K hK => ?_)
                  refine goes_ Tryz.func23 (by kernel_rfl) rfl #[.agg #[.bool ((rd_T25 l0 x8_1).f1.f0), .int .i64 ((rd_T25 l0 x8_1).f1.f1), .string ((rd_T25 l0 x8_1).f1.f2)]] (by rfl) rfl rfl (by (try simp only [List.map_toArray, List.map_cons, List.map_nil]); first | done | rfl | (simp only [List.length_drop, List.length_take]; rfl)) ?_
                  with_reducible refine (value_Say.calls ((rd_T25 l0 x8_1).f1.f0) ((rd_T25 l0 x8_1).f1.f1) ((rd_T25 l0 x8_1).f1.f2) t157 _ (Val.tb HTAB (by repeat (first | (with_reducible first | exact HB.out | apply below_alloc | apply pw_below_drewN | apply below_drew1 | refine below_set ?_ GE156.out) | exact HB.out))) A6.out).mono ?_
                  rintro e w13 ⟨rfl, hb⟩
                  refine ⟨_, rfl, ?_⟩
                  have n0_ := Aside0.mk (Kd.R_below (by (with_reducible repeat (first | apply Kd.R_alloc | apply Kd.R_drewN | apply Kd.R_drew)); exact HO_3.out) hb)
                  have n1_ := Aside0.mk (blk_below (g := gb156) (o := .cells #[.string ((rd_T25 l0 x8_1).f0), .bool ((rd_T25 l0 x8_1).f1.f0), .int .i64 ((rd_T25 l0 x8_1).f1.f1), .string ((rd_T25 l0 x8_1).f1.f2)] 25 (0, 0)) (by (with_reducible repeat (first | refine blk_drewN ?_ _ | refine blk_drew ?_ | refine blk_alloc ?_ _)); exact BK156.out) hb)
                  have n2_ := Aside0.mk (below_step (by repeat (first | (with_reducible first | exact HB.out | apply below_alloc | apply pw_below_drewN | apply below_drew1 | refine below_set ?_ GE156.out) | exact HB.out)) hb)
                  clear HO_3
                  clear BK156
                  clear HB
                  have HO_3 := n0_
                  have BK156 := n1_
                  have HB := n2_
                  clear n0_ n1_ n2_
                  (try clear hb)
                  (try clear hb2)
                  (try clear hk)
                  (try clear hi)
                  refine hK.out _ _ ⟨(blk_cell BK156.out 0).trans rfl, (blk_cell BK156.out 1).trans rfl, (blk_cell BK156.out 2).trans rfl, (blk_cell BK156.out 3).trans rfl⟩ (fun hHeld => ?_)
                  clear hK K
                  refine norm_ (a' := ?_) ?_ ?_
                  rotate_left
                  · show Act.put _ (some 18) _ = _
                    simp only [Act.put, List.setIfInBounds_toArray, List.set_cons_zero, List.set_cons_succ, i64_w, i32_w]
                    rfl
                  refine pure_ (i := 7) (N := some 19) (v := ?_) (a' := ?_) #[true, true, true, true, true, true, true, true, false, false, false] rfl rfl (any_of HT_.out (by kernel_rfl)) (fun _ _ _ h => h) (Or.inl ⟨by rfl, ?_⟩) ?_ ?_
                  rotate_left
                  · intro w'
                    go_simp
                    with_reducible rfl
                  rotate_left
                  · simp only [Act.put, List.setIfInBounds_toArray, List.set_cons_zero, List.set_cons_succ, i64_w, i32_w]
                    rfl
                  refine one_ (i := 8) (N := some 20) #[true, true, true, true, true, true, true, true, true, false, false] rfl rfl (one_of HT_.out (by kernel_rfl)) (by decide) (fun K hK => ?_)
                  refine value_ (w1 := ?_) (v := ?_) (by rfl) rfl ?_ ?_
                  rotate_left 2
                  · go_simp
                    constructor
                    · rfl
                    · rfl
                  refine hK.out _ _ ⟨(blk_cell (blk_alloc BK156.out _) 0).trans rfl, (blk_cell (blk_alloc BK156.out _) 1).trans rfl, (blk_cell (blk_alloc BK156.out _) 2).trans rfl, (blk_cell (blk_alloc BK156.out _) 3).trans rfl⟩ (fun hHeld => ?_)
                  clear hK K
                  refine norm_ (a' := ?_) ?_ ?_
                  rotate_left
                  · show Act.put _ (some 20) _ = _
                    simp only [Act.put, List.setIfInBounds_toArray, List.set_cons_zero, List.set_cons_succ, i64_w, i32_w]
                    rfl
                  refine one_ (i := 9) (N := some 21) #[true, true, true, true, true, true, true, true, true, true, false] rfl rfl (one_of HT_.out (by kernel_rfl)) (by decide) (fun K hK => ?_)
                  refine Kd.R_append_step Kd.string (w0 := w) w.heap.size (by rfl) (.tmp 12) (.tmp 20) 45 9 (.string ⟨#[]⟩) 16 rfl Tryz.underlying45 info9 rfl (by decide) (by omega) u3 x3_1 ((((rd_T25 l0 x8_1).f0) ++ (⟨#[61]⟩ : ByteArray)) ++ t157) [.string ((((rd_T25 l0 x8_1).f0) ++ (⟨#[61]⟩ : ByteArray)) ++ t157)] (fun _ => True) (fun _ => False) rfl rfl ?aP (fun _ hk => hk.elim) ?aF ?aO ?aB ?aS ?aL ?_
                  (case aP => exact rfl)
                  (case aB => exact (by repeat (first | (with_reducible first | exact HB.out | apply below_alloc | apply pw_below_drewN | apply below_drew1 | refine below_set ?_ GE156.out) | exact HB.out)))
                  (case aF => exact (fun _ _ => trivial))
                  (case aO => exact (by (with_reducible repeat (first | apply Kd.R_alloc | apply Kd.R_drewN | apply Kd.R_drew)); exact HO_3.out))
                  (case aS => exact (below_size (by repeat (first | (with_reducible first | exact HB.out | apply below_alloc | apply pw_below_drewN | apply below_drew1 | refine below_set ?_ GE156.out) | exact HB.out))))
                  (case aL => have := LMc8.out; omega)
                  intro v159 w14 ho hb hg hat
                  rw [← Ny158.out] at ho
                  have n0_ := Aside0.mk (blk_grown (g := gb156) (o := .cells #[.string ((rd_T25 l0 x8_1).f0), .bool ((rd_T25 l0 x8_1).f1.f0), .int .i64 ((rd_T25 l0 x8_1).f1.f1), .string ((rd_T25 l0 x8_1).f1.f2)] 25 (0, 0)) (by (with_reducible repeat (first | refine blk_drewN ?_ _ | refine blk_drew ?_ | refine blk_alloc ?_ _)); exact BK156.out) hg (Kd.R_ne HO_3.out BK156.out (by decide)))
                  have n1_ := Aside0.mk (hb)
                  have n2_ := Aside0.mk (ho)
                  clear BK156
                  clear HB
                  clear HO_3
                  have BK156 := n0_
                  have HB := n1_
                  have HO160 := n2_
                  clear n0_ n1_ n2_
                  clear ho hb hg hat
                  refine hK.out _ _ ⟨(blk_cell BK156.out 0).trans rfl, (blk_cell BK156.out 1).trans rfl, (blk_cell BK156.out 2).trans rfl, (blk_cell BK156.out 3).trans rfl⟩ (fun hHeld => ?_)
                  clear hK K
                  refine norm_ (a' := ?_) ?_ ?_
                  rotate_left
                  · show Act.put _ (some 21) _ = _
                    simp only [Act.put, List.setIfInBounds_toArray, List.set_cons_zero, List.set_cons_succ, i64_w, i32_w]
                    rfl
                  refine pure_ (i := 10) (N := some 3) (v := ?_) (a' := ?_) #[true, true, true, true, true, true, true, true, true, true, true] rfl rfl (any_of HT_.out (by kernel_rfl)) (fun _ _ _ h => h) (Or.inl ⟨by rfl, ?_⟩) ?_ ?_
                  rotate_left
                  · intro w'
                    go_simp
                    with_reducible rfl
                  rotate_left
                  · simp only [Act.put, List.setIfInBounds_toArray, List.set_cons_zero, List.set_cons_succ, i64_w, i32_w]
                    rfl
                  refine done_ (done_of HT_.out (by kernel_rfl)) ?_
                  try go_wp2
                  go_roundg k1
                  case measure => have := HK1.out; omega
                  case rel => exact ⟨(y158), (wrap64 (x8_1 + 1)), (by first | rfl | (simp; done) | (simp [*]; done)), H', ⟨by have := HK1.out; omega⟩, ⟨by (with_reducible repeat (first | apply Kd.R_alloc | apply Kd.R_drewN | apply Kd.R_drew)); exact HO160.out⟩, ⟨by repeat (first | (with_reducible first | exact HB.out | apply below_alloc | apply pw_below_drewN | apply below_drew1 | refine below_set ?_ GE156.out) | exact HB.out)⟩⟩
                · rw [if_neg c8] at H
                  exact absurd H (by simp)
              · rw [if_neg c7] at H
                exact absurd H (by simp)
            · rw [if_neg c5] at H
              exact absurd H (by simp)
          · rw [if_neg c4] at H
            exact absurd H (by simp)
        · rw [if_neg c3] at H
          exact absurd H (by simp)
      · rw [if_neg c2] at H
        have c2b0 : decide (x8_1 < (l0.length : Int)) = false := decide_eq_false c2
        clear c2
        replace H := Option.bind_eq_some_iff.mp H
        obtain ⟨t161, A150, H⟩ := H
        replace H : (some t161) = some r := H
        have A15 := Aside0.mk A150
        clear A150
        obtain rfl := Option.some.inj H
        obtain ⟨Ao16, co16, eo16⟩ := Kd.R_slice HO_3.out
        subst eo16
        go_wp2_with (first | ((with_reducible refine gate_callee (f := 24) rfl ?_); refine goesL_ (some 24) rfl rfl Tryz.func24 (by kernel_rfl) rfl #[.slice Ao16 x3_1.length co16, .string (⟨#[44]⟩ : ByteArray)] rfl (by (try simp only [List.map_toArray, List.map_cons, List.map_nil]); first | done | rfl | (simp only [List.length_drop, List.length_take]; rfl)) ?_; (with_reducible refine (strings_Join.calls _ _ x3_1 (⟨#[44]⟩ : ByteArray) t161 _ ?side1 ?side2 A15.out).mono ?_); (case side1 => repeat (first | exact (Kd.R_reads' HO_3.out).2.2 | (with_reducible refine Kd.C_alloc ?_ _) | (with_reducible refine Kd.C_drewN ?_ _) | (with_reducible refine Kd.C_drew ?_))); (case side2 => exact (Kd.R_reads' HO_3.out).2.1); rintro e w17 ⟨rfl, hb⟩; refine ⟨_, rfl, ?_⟩; have n0_ := Aside0.mk (Kd.R_below (by (with_reducible repeat (first | apply Kd.R_alloc | apply Kd.R_drewN | apply Kd.R_drew)); exact HO_3.out) hb); have n1_ := Aside0.mk (below_step (by repeat (first | (with_reducible first | exact HB.out | apply below_alloc | apply pw_below_drewN | apply below_drew1) | exact HB.out)) hb); clear HO_3; clear HB; have HO_3 := n0_; have HB := n1_; clear n0_ n1_; (try clear hb); (try clear hb2); (try clear hk); (try clear hi)))
        go_ret
        exact ⟨by first | rfl | (simp [errW_none, errW_some] <;> rfl) | (simp [*, errW_none, errW_some] <;> rfl), by repeat (first | (with_reducible first | exact HB.out | apply below_alloc | apply pw_below_drewN | apply below_drew1) | exact HB.out)⟩

-- FOREIGN: function 10 (tuple_Put)

/-! ### broadsidelaw3_TupleRuns: function 3 -/
def broadsidelaw3_TupleRuns.f (k : Nat)  : Option (Bool) := (some (([(⟨(⟨#[97]⟩ : ByteArray), (⟨false, 1, (⟨#[]⟩ : ByteArray)⟩ : S23)⟩ : S25), (⟨(⟨#[98]⟩ : ByteArray), (⟨true, 0, (⟨#[120]⟩ : ByteArray)⟩ : S23)⟩ : S25)] : List (S25)) : List (S25))).bind fun y162 => ((tuple_Get.f k y162 (⟨#[98]⟩ : ByteArray)).bind fun bt165 => ((tuple_Say.f k y162).bind fun t170 => (if t170.toList = ([97, 61, 49, 44, 98, 61, 34, 120, 34] : List UInt8) then (if bt165.2.2.1.toList = ([120] : List UInt8) then (if bt165.2.2.2 = true then ((tuple_Put.f y162 (⟨#[97]⟩ : ByteArray) false 2 (⟨#[]⟩ : ByteArray)).bind fun t171 => ((tuple_Say.f k t171).bind fun t174 => (if t174.toList = ([97, 61, 50, 44, 98, 61, 34, 120, 34] : List UInt8) then ((tuple_Right.f k y162).bind fun t175 => (some t175)) else (some false)))) else (some false)) else (some false)) else (some false))))
theorem broadsidelaw3_TupleRuns.mono : ∀ k, LeO (broadsidelaw3_TupleRuns.f k ) (broadsidelaw3_TupleRuns.f (k + 1) ) := by
  intro  k
  unfold broadsidelaw3_TupleRuns.f
  repeat' first
      | (with_reducible exact tuple_Get.mono _ _ _)
      | (with_reducible exact tuple_Right.mono _ _)
      | (with_reducible exact tuple_Say.mono _ _)
      | (with_reducible exact LeO.refl _)
      | (with_reducible exact LeO.none _)
      | (with_reducible refine LeO.ite ?_ ?_)
      | (with_reducible refine LeO.bind ?_ (fun _ => ?_))
      | exact tuple_Get.mono _ _ _
      | exact tuple_Right.mono _ _
      | exact tuple_Say.mono _ _
      | exact LeO.none _
      | refine LeO.ite ?_ ?_
      | refine LeO.bind ?_ (fun _ => ?_)
set_option maxHeartbeats 8000000 in
set_option maxRecDepth 100000 in
theorem broadsidelaw3_TupleRuns.calls (k : Nat)  (r : Bool) (w : World) (HTAB : Aside0 (Val.Tab w)) (h : broadsidelaw3_TupleRuns.f k  = some r) :
    Calls Tryz.prog 3 #[] w fun e w' => e = .returned (.bool r) ∧ Below w.heap.size w w' := by
  have hu23 := Tryz.underlying23
  have hu25 := Tryz.underlying25
  have HB := Aside0.mk (Below.refl w.heap.size w)
  have H : ((some (([(⟨(⟨#[97]⟩ : ByteArray), (⟨false, 1, (⟨#[]⟩ : ByteArray)⟩ : S23)⟩ : S25), (⟨(⟨#[98]⟩ : ByteArray), (⟨true, 0, (⟨#[120]⟩ : ByteArray)⟩ : S23)⟩ : S25)] : List (S25)) : List (S25))).bind fun y162 => ((tuple_Get.f k y162 (⟨#[98]⟩ : ByteArray)).bind fun bt165 => ((tuple_Say.f k y162).bind fun t170 => (if t170.toList = ([97, 61, 49, 44, 98, 61, 34, 120, 34] : List UInt8) then (if bt165.2.2.1.toList = ([120] : List UInt8) then (if bt165.2.2.2 = true then ((tuple_Put.f y162 (⟨#[97]⟩ : ByteArray) false 2 (⟨#[]⟩ : ByteArray)).bind fun t171 => ((tuple_Say.f k t171).bind fun t174 => (if t174.toList = ([97, 61, 50, 44, 98, 61, 34, 120, 34] : List UInt8) then ((tuple_Right.f k y162).bind fun t175 => (some t175)) else (some false)))) else (some false)) else (some false)) else (some false))))) = some r := h
  clear h
  obtain ⟨y162, hy162⟩ : ∃ y_ : List (S25), y_ = (([(⟨(⟨#[97]⟩ : ByteArray), (⟨false, 1, (⟨#[]⟩ : ByteArray)⟩ : S23)⟩ : S25), (⟨(⟨#[98]⟩ : ByteArray), (⟨true, 0, (⟨#[120]⟩ : ByteArray)⟩ : S23)⟩ : S25)] : List (S25))) := ⟨_, rfl⟩
  replace H : ((tuple_Get.f k y162 (⟨#[98]⟩ : ByteArray)).bind fun bt165 => ((tuple_Say.f k y162).bind fun t170 => (if t170.toList = ([97, 61, 49, 44, 98, 61, 34, 120, 34] : List UInt8) then (if bt165.2.2.1.toList = ([120] : List UInt8) then (if bt165.2.2.2 = true then ((tuple_Put.f y162 (⟨#[97]⟩ : ByteArray) false 2 (⟨#[]⟩ : ByteArray)).bind fun t171 => ((tuple_Say.f k t171).bind fun t174 => (if t174.toList = ([97, 61, 50, 44, 98, 61, 34, 120, 34] : List UInt8) then ((tuple_Right.f k y162).bind fun t175 => (some t175)) else (some false)))) else (some false)) else (some false)) else (some false)))) = some r := by first | (rw [hy162]; with_reducible exact H) | (have H2_ := (Option.bind_some _ _).symm.trans H; rw [hy162]; with_reducible exact H2_) | (have H2_ := (Option.bind_some _ _).symm.trans H; with_reducible exact H2_) | with_reducible exact H | (rw [hy162]; exact H) | exact H
  have Ny162 := Aside0.mk hy162
  clear hy162
  replace H := Option.bind_eq_some_iff.mp H
  obtain ⟨⟨t165, t166, t167, t168⟩, A10, H⟩ := H
  replace H : ((tuple_Say.f k y162).bind fun t170 => (if t170.toList = ([97, 61, 49, 44, 98, 61, 34, 120, 34] : List UInt8) then (if t167.toList = ([120] : List UInt8) then (if t168 = true then ((tuple_Put.f y162 (⟨#[97]⟩ : ByteArray) false 2 (⟨#[]⟩ : ByteArray)).bind fun t171 => ((tuple_Say.f k t171).bind fun t174 => (if t174.toList = ([97, 61, 50, 44, 98, 61, 34, 120, 34] : List UInt8) then ((tuple_Right.f k y162).bind fun t175 => (some t175)) else (some false)))) else (some false)) else (some false)) else (some false))) = some r := H
  have A1 := Aside0.mk A10
  clear A10
  replace H := Option.bind_eq_some_iff.mp H
  obtain ⟨t170, A20, H⟩ := H
  replace H : (if t170.toList = ([97, 61, 49, 44, 98, 61, 34, 120, 34] : List UInt8) then (if t167.toList = ([120] : List UInt8) then (if t168 = true then ((tuple_Put.f y162 (⟨#[97]⟩ : ByteArray) false 2 (⟨#[]⟩ : ByteArray)).bind fun t171 => ((tuple_Say.f k t171).bind fun t174 => (if t174.toList = ([97, 61, 50, 44, 98, 61, 34, 120, 34] : List UInt8) then ((tuple_Right.f k y162).bind fun t175 => (some t175)) else (some false)))) else (some false)) else (some false)) else (some false)) = some r := H
  have A2 := Aside0.mk A20
  clear A20
  by_cases c3 : t170.toList = ([97, 61, 49, 44, 98, 61, 34, 120, 34] : List UInt8)
  · rw [if_pos c3] at H
    have c3b0 : (t170.toList == ([97, 61, 49, 44, 98, 61, 34, 120, 34] : List UInt8)) = true := beq_iff_eq.mpr c3
    have c3b1 : (t170.toList != ([97, 61, 49, 44, 98, 61, 34, 120, 34] : List UInt8)) = false := bne_eq_false_iff_eq.mpr c3
    clear c3
    by_cases c4 : t167.toList = ([120] : List UInt8)
    · rw [if_pos c4] at H
      have c4b0 : (t167.toList == ([120] : List UInt8)) = true := beq_iff_eq.mpr c4
      have c4b1 : (t167.toList != ([120] : List UInt8)) = false := bne_eq_false_iff_eq.mpr c4
      clear c4
      by_cases c5 : t168 = true
      · subst c5
        have H1 : ((tuple_Put.f y162 (⟨#[97]⟩ : ByteArray) false 2 (⟨#[]⟩ : ByteArray)).bind fun t171 => ((tuple_Say.f k t171).bind fun t174 => (if t174.toList = ([97, 61, 50, 44, 98, 61, 34, 120, 34] : List UInt8) then ((tuple_Right.f k y162).bind fun t175 => (some t175)) else (some false)))) = some r := by rw [if_pos rfl] at H; exact H
        clear H
        have H := H1
        clear H1
        replace H := Option.bind_eq_some_iff.mp H
        obtain ⟨t171, A60, H⟩ := H
        replace H : ((tuple_Say.f k t171).bind fun t174 => (if t174.toList = ([97, 61, 50, 44, 98, 61, 34, 120, 34] : List UInt8) then ((tuple_Right.f k y162).bind fun t175 => (some t175)) else (some false))) = some r := H
        have A6 := Aside0.mk A60
        clear A60
        replace H := Option.bind_eq_some_iff.mp H
        obtain ⟨t174, A70, H⟩ := H
        replace H : (if t174.toList = ([97, 61, 50, 44, 98, 61, 34, 120, 34] : List UInt8) then ((tuple_Right.f k y162).bind fun t175 => (some t175)) else (some false)) = some r := H
        have A7 := Aside0.mk A70
        clear A70
        by_cases c8 : t174.toList = ([97, 61, 50, 44, 98, 61, 34, 120, 34] : List UInt8)
        · rw [if_pos c8] at H
          have c8b0 : (t174.toList == ([97, 61, 50, 44, 98, 61, 34, 120, 34] : List UInt8)) = true := beq_iff_eq.mpr c8
          have c8b1 : (t174.toList != ([97, 61, 50, 44, 98, 61, 34, 120, 34] : List UInt8)) = false := bne_eq_false_iff_eq.mpr c8
          clear c8
          replace H := Option.bind_eq_some_iff.mp H
          obtain ⟨t175, A90, H⟩ := H
          replace H : (some t175) = some r := H
          have A9 := Aside0.mk A90
          clear A90
          obtain rfl := Option.some.inj H
          go_enter Tryz.func3, Tryz.ntmps3
          go_wp2_with (first | ((with_reducible refine gate_dst (N := 8) rfl ?_); refine Kd.R_lit k25 _ 25 ?hg (N := 8) ?hd (xs := ([(⟨(⟨#[97]⟩ : ByteArray), (⟨false, 1, (⟨#[]⟩ : ByteArray)⟩ : S23)⟩ : S25), (⟨(⟨#[98]⟩ : ByteArray), (⟨true, 0, (⟨#[120]⟩ : ByteArray)⟩ : S23)⟩ : S25)] : List (S25))) (inner := [.string (⟨#[97]⟩ : ByteArray), .bool false, .int .i64 1, .string (⟨#[]⟩ : ByteArray), .string (⟨#[98]⟩ : ByteArray), .bool true, .int .i64 0, .string (⟨#[120]⟩ : ByteArray)]) (ok := fun _ => True) (okp := fun _ => True) ?hr ?hp (fun _ hk => hk) trivial (Below.refl _ _) (Nat.le_refl _) (by simp) ?_; (case hd => rfl); (case hg => rfl); (case hr => first | (go_simp; done) | (go_simp; rfl)); (case hp => exact (Reps.c4 (show Kd.M k25 _ _ _ (⟨(⟨#[97]⟩ : ByteArray), (⟨false, 1, (⟨#[]⟩ : ByteArray)⟩ : S23)⟩ : S25) [.string (⟨#[97]⟩ : ByteArray), .bool false, .int .i64 1, .string (⟨#[]⟩ : ByteArray)] from (k25_mkM _ _ _ (⟨(⟨#[97]⟩ : ByteArray), (⟨false, 1, (⟨#[]⟩ : ByteArray)⟩ : S23)⟩ : S25) )) (Reps.c4 (show Kd.M k25 _ _ _ (⟨(⟨#[98]⟩ : ByteArray), (⟨true, 0, (⟨#[120]⟩ : ByteArray)⟩ : S23)⟩ : S25) [.string (⟨#[98]⟩ : ByteArray), .bool true, .int .i64 0, .string (⟨#[120]⟩ : ByteArray)] from (k25_mkM _ _ _ (⟨(⟨#[98]⟩ : ByteArray), (⟨true, 0, (⟨#[120]⟩ : ByteArray)⟩ : S23)⟩ : S25) )) (Reps.none _ _)))); intro v163 w10 ho11 hb hg_ hnew_; clear hg_ hnew_; (first | rw [← Ny162.out] at ho11 | (simp only [Int.reduceToNat] at ho11; rw [← Ny162.out] at ho11)); have n0_ := Aside0.mk (Kd.R_lower ho11 (below_size (by repeat (first | (with_reducible first | exact HB.out | apply below_alloc | apply pw_below_drewN | apply below_drew1) | exact HB.out)))); have n1_ := Aside0.mk (below_step (by repeat (first | (with_reducible first | exact HB.out | apply below_alloc | apply pw_below_drewN | apply below_drew1) | exact HB.out)) hb); clear HB; have HO164 := n0_; have HB := n1_; clear n0_ n1_; clear hb ho11; obtain ⟨Ao12, co12, eo12⟩ := Kd.R_slice HO164.out; subst eo12) | ((with_reducible refine gate_callee (f := 8) rfl ?_); refine goesL_ (some 11) rfl rfl Tryz.func8 (by kernel_rfl) rfl #[.slice Ao12 y162.length co12, .string (⟨#[98]⟩ : ByteArray)] rfl (by (try simp only [List.map_toArray, List.map_cons, List.map_nil]); first | done | rfl | (simp only [List.length_drop, List.length_take]; rfl)) ?_; (with_reducible refine (tuple_Get.calls k _ _ y162 (⟨#[98]⟩ : ByteArray) t165 t166 t167 true _ ?side1 ?side2 A1.out).mono ?_); (case side1 => repeat (first | exact (Kd.R_reads' HO164.out).2.2 | (with_reducible refine Kd.C_alloc ?_ _) | (with_reducible refine Kd.C_drewN ?_ _) | (with_reducible refine Kd.C_drew ?_))); (case side2 => exact (Kd.R_reads' HO164.out).2.1); rintro e w13 ⟨rfl, hb⟩; refine ⟨_, rfl, ?_⟩; have n0_ := Aside0.mk (Kd.R_below (by (with_reducible repeat (first | apply Kd.R_alloc | apply Kd.R_drewN | apply Kd.R_drew)); exact HO164.out) hb); have n1_ := Aside0.mk (below_step (by repeat (first | (with_reducible first | exact HB.out | apply below_alloc | apply pw_below_drewN | apply below_drew1) | exact HB.out)) hb); clear HO164; clear HB; have HO164 := n0_; have HB := n1_; clear n0_ n1_; (try clear hb); (try clear hb2); (try clear hk); (try clear hi)) | ((with_reducible refine gate_dst (N := 2) rfl ?_); refine box_event ?hg (N := 2) ?hd (cs := #[.bool false, .int .i64 0, .string (⟨#[]⟩ : ByteArray)]) (t := 23) ?hr ?_; (case hd => rfl); (case hg => rfl); (case hr => first | (go_simp; done) | (go_simp; rfl)); intro gb169 hg w14 hbox hb; have n0_ := Aside0.mk (Kd.R_below (by (with_reducible repeat (first | apply Kd.R_alloc | apply Kd.R_drewN | apply Kd.R_drew)); exact HO164.out) hb); have n1_ := Aside0.mk (below_step (by repeat (first | (with_reducible first | exact HB.out | apply below_alloc | apply pw_below_drewN | apply below_drew1) | exact HB.out)) hb); have n2_ := Aside0.mk (hbox); have n3_ := Aside0.mk ((by rw [hg]; exact (below_size (by repeat (first | (with_reducible first | exact HB.out | apply below_alloc | apply pw_below_drewN | apply below_drew1) | exact HB.out))) : w.heap.size ≤ gb169)); have n4_ := Aside0.mk ((by rw [hg]; exact (below_size (by repeat (first | (with_reducible first | exact HB.out | apply below_alloc | apply pw_below_drewN | apply below_drew1) | exact HB.out))) : w.heap.size ≤ gb169)); clear HO164; clear HB; have HO164 := n0_; have HB := n1_; have BK169 := n2_; have GW169 := n3_; have GE169 := n4_; clear n0_ n1_ n2_ n3_ n4_; clear hb hbox hg; have hcz15_0 : w14.cell? ⟨gb169, 0, none⟩ = some (.bool false) := (blk_cell BK169.out 0).trans rfl; have hcz15_1 : w14.cell? ⟨gb169, 1, none⟩ = some (.int .i64 0) := (blk_cell BK169.out 1).trans rfl; have hcz15_2 : w14.cell? ⟨gb169, 2, none⟩ = some (.string (⟨#[]⟩ : ByteArray)) := (blk_cell BK169.out 2).trans rfl; have hfz15_0 := blk_frozen BK169.out 0; have hfz15_1 := blk_frozen BK169.out 1; have hfz15_2 := blk_frozen BK169.out 2) | ((with_reducible refine gate_callee (f := 9) rfl ?_); refine goesL_ (some 15) rfl rfl Tryz.func9 (by kernel_rfl) rfl #[.slice Ao12 y162.length co12] rfl (by (try simp only [List.map_toArray, List.map_cons, List.map_nil]); first | done | rfl | (simp only [List.length_drop, List.length_take]; rfl)) ?_; (with_reducible refine (tuple_Say.calls k _ _ y162 t170 _ ?side0 ?side1 ?side2 A2.out).mono ?_); (case side0 => exact Val.tb HTAB (by repeat (first | (with_reducible first | exact HB.out | apply below_alloc | apply pw_below_drewN | apply below_drew1 | refine below_set ?_ GE169.out) | exact HB.out))); (case side1 => refine (Kd.R_reads' (e := 25) (base := w.heap.size) (ok := fun k_ => True) (n := y162.length) (c := co12) ?_).2.2; exact (by (with_reducible repeat (first | apply Kd.R_alloc | apply Kd.R_drewN | apply Kd.R_drew)); exact (Kd.R_mono (Kd.R_far (p := ⟨gb169, 2, none⟩) (Kd.R_far (p := ⟨gb169, 1, none⟩) (Kd.R_far (p := ⟨gb169, 0, none⟩) (Kd.R_types HO164.out BK169.out (by decide)) (fun _ hk => hk.2) (.bool t165)) (fun _ hk => hk.2) (.int .i64 t166)) (fun _ hk => hk.2) (.string t167)) (fun _ h_ => h_.1)))); (case side2 => exact (Kd.R_reads' HO164.out).2.1); rintro e w16 ⟨rfl, hb⟩; refine ⟨_, rfl, ?_⟩; have n0_ := Aside0.mk (Kd.R_below (by (with_reducible repeat (first | apply Kd.R_alloc | apply Kd.R_drewN | apply Kd.R_drew)); exact (Kd.R_mono (Kd.R_far (p := ⟨gb169, 2, none⟩) (Kd.R_far (p := ⟨gb169, 1, none⟩) (Kd.R_far (p := ⟨gb169, 0, none⟩) (Kd.R_types HO164.out BK169.out (by decide)) (fun _ hk => hk.2) (.bool t165)) (fun _ hk => hk.2) (.int .i64 t166)) (fun _ hk => hk.2) (.string t167)) (fun _ h_ => h_.1))) hb); have n1_ := Aside0.mk (blk_below (g := gb169) (o := .cells #[.bool t165, .int .i64 t166, .string t167] 23 (0, 0)) (by (with_reducible repeat (first | refine blk_drewN ?_ _ | refine blk_drew ?_ | refine blk_alloc ?_ _)); refine blk_put (cs := #[.bool t165, .int .i64 t166, .string (⟨#[]⟩ : ByteArray)]) ?_ 2 _ rfl; (with_reducible repeat (first | refine blk_drewN ?_ _ | refine blk_drew ?_ | refine blk_alloc ?_ _)); refine blk_put (cs := #[.bool t165, .int .i64 0, .string (⟨#[]⟩ : ByteArray)]) ?_ 1 _ rfl; (with_reducible repeat (first | refine blk_drewN ?_ _ | refine blk_drew ?_ | refine blk_alloc ?_ _)); refine blk_put (cs := #[.bool false, .int .i64 0, .string (⟨#[]⟩ : ByteArray)]) ?_ 0 _ rfl; (with_reducible repeat (first | refine blk_drewN ?_ _ | refine blk_drew ?_ | refine blk_alloc ?_ _)); exact BK169.out) hb); have n2_ := Aside0.mk (below_step (by repeat (first | (with_reducible first | exact HB.out | apply below_alloc | apply pw_below_drewN | apply below_drew1 | refine below_set ?_ GE169.out) | exact HB.out)) hb); clear HO164; clear BK169; clear HB; have HO164 := n0_; have BK169 := n1_; have HB := n2_; clear n0_ n1_ n2_; (try clear hb); (try clear hb2); (try clear hk); (try clear hi); have hcz17_0 : w16.cell? ⟨gb169, 0, none⟩ = some (.bool t165) := (blk_cell BK169.out 0).trans rfl; have hcz17_1 : w16.cell? ⟨gb169, 1, none⟩ = some (.int .i64 t166) := (blk_cell BK169.out 1).trans rfl; have hcz17_2 : w16.cell? ⟨gb169, 2, none⟩ = some (.string t167) := (blk_cell BK169.out 2).trans rfl; have hfz17_0 := blk_frozen BK169.out 0; have hfz17_1 := blk_frozen BK169.out 1; have hfz17_2 := blk_frozen BK169.out 2) | (go_at_call 10; (with_reducible refine (tuple_Put.calls _ _ y162 (⟨#[97]⟩ : ByteArray) false 2 (⟨#[]⟩ : ByteArray) t171 _ ?side1 ?side2 A6.out).mono ?_); (case side1 => repeat (first | exact (Kd.R_reads' HO164.out).2.2 | (with_reducible refine Kd.C_alloc ?_ _) | (with_reducible refine Kd.C_drewN ?_ _) | (with_reducible refine Kd.C_drew ?_))); (case side2 => exact (Kd.R_reads' HO164.out).2.1); rintro e w18 ⟨v172, rfl, ho0, hb⟩; have n0_ := Aside0.mk (Kd.R_elder' (by (with_reducible repeat (first | apply Kd.R_alloc | apply Kd.R_drewN | apply Kd.R_drew)); exact HO164.out) (Kd.R_base ho0) hb); have n1_ := Aside0.mk (Kd.R_lower (Kd.R_new' ho0 (Kd.R_lt (by (with_reducible repeat (first | apply Kd.R_alloc | apply Kd.R_drewN | apply Kd.R_drew)); exact HO164.out))) (below_size (by repeat (first | (with_reducible first | exact HB.out | apply below_alloc | apply pw_below_drewN | apply below_drew1 | refine below_set ?_ GE169.out) | exact HB.out)))); have n2_ := Aside0.mk (blk_below (g := gb169) (o := .cells #[.bool t165, .int .i64 t166, .string t167] 23 (0, 0)) (by (with_reducible repeat (first | refine blk_drewN ?_ _ | refine blk_drew ?_ | refine blk_alloc ?_ _)); exact BK169.out) hb); have n3_ := Aside0.mk (below_step (by repeat (first | (with_reducible first | exact HB.out | apply below_alloc | apply pw_below_drewN | apply below_drew1 | refine below_set ?_ GE169.out) | exact HB.out)) hb); clear HO164; clear BK169; clear HB; have HO164 := n0_; have HO173 := n1_; have BK169 := n2_; have HB := n3_; clear n0_ n1_ n2_ n3_; (try clear hb); (try clear hb2); (try clear hk); (try clear hi); (try clear ho0); obtain ⟨Ao19, co19, eo19⟩ := Kd.R_slice HO173.out; subst eo19) | (go_at_call 9; (with_reducible refine (tuple_Say.calls k _ _ t171 t174 _ ?side0 ?side1 ?side2 A7.out).mono ?_); (case side0 => exact Val.tb HTAB (by repeat (first | (with_reducible first | exact HB.out | apply below_alloc | apply pw_below_drewN | apply below_drew1 | refine below_set ?_ GE169.out) | exact HB.out))); (case side1 => repeat (first | exact (Kd.R_reads' HO173.out).2.2 | (with_reducible refine Kd.C_alloc ?_ _) | (with_reducible refine Kd.C_drewN ?_ _) | (with_reducible refine Kd.C_drew ?_))); (case side2 => exact (Kd.R_reads' HO173.out).2.1); rintro e w20 ⟨rfl, hb⟩; have n0_ := Aside0.mk (Kd.R_below (by (with_reducible repeat (first | apply Kd.R_alloc | apply Kd.R_drewN | apply Kd.R_drew)); exact HO164.out) hb); have n1_ := Aside0.mk (Kd.R_below (by (with_reducible repeat (first | apply Kd.R_alloc | apply Kd.R_drewN | apply Kd.R_drew)); exact HO173.out) hb); have n2_ := Aside0.mk (blk_below (g := gb169) (o := .cells #[.bool t165, .int .i64 t166, .string t167] 23 (0, 0)) (by (with_reducible repeat (first | refine blk_drewN ?_ _ | refine blk_drew ?_ | refine blk_alloc ?_ _)); exact BK169.out) hb); have n3_ := Aside0.mk (below_step (by repeat (first | (with_reducible first | exact HB.out | apply below_alloc | apply pw_below_drewN | apply below_drew1 | refine below_set ?_ GE169.out) | exact HB.out)) hb); clear HO164; clear HO173; clear BK169; clear HB; have HO164 := n0_; have HO173 := n1_; have BK169 := n2_; have HB := n3_; clear n0_ n1_ n2_ n3_; (try clear hb); (try clear hb2); (try clear hk); (try clear hi)) | (go_at_call 11; (with_reducible refine (tuple_Right.calls k _ _ y162 t175 _ ?side1 ?side2 A9.out).mono ?_); (case side1 => repeat (first | exact (Kd.R_reads' HO164.out).2.2 | (with_reducible refine Kd.C_alloc ?_ _) | (with_reducible refine Kd.C_drewN ?_ _) | (with_reducible refine Kd.C_drew ?_))); (case side2 => exact (Kd.R_reads' HO164.out).2.1); rintro e w21 ⟨rfl, hb⟩; have n0_ := Aside0.mk (Kd.R_below (by (with_reducible repeat (first | apply Kd.R_alloc | apply Kd.R_drewN | apply Kd.R_drew)); exact HO164.out) hb); have n1_ := Aside0.mk (Kd.R_below (by (with_reducible repeat (first | apply Kd.R_alloc | apply Kd.R_drewN | apply Kd.R_drew)); exact HO173.out) hb); have n2_ := Aside0.mk (blk_below (g := gb169) (o := .cells #[.bool t165, .int .i64 t166, .string t167] 23 (0, 0)) (by (with_reducible repeat (first | refine blk_drewN ?_ _ | refine blk_drew ?_ | refine blk_alloc ?_ _)); exact BK169.out) hb); have n3_ := Aside0.mk (below_step (by repeat (first | (with_reducible first | exact HB.out | apply below_alloc | apply pw_below_drewN | apply below_drew1 | refine below_set ?_ GE169.out) | exact HB.out)) hb); clear HO164; clear HO173; clear BK169; clear HB; have HO164 := n0_; have HO173 := n1_; have BK169 := n2_; have HB := n3_; clear n0_ n1_ n2_ n3_; (try clear hb); (try clear hb2); (try clear hk); (try clear hi)))
          go_ret
          exact ⟨by first | rfl | (simp [errW_none, errW_some] <;> rfl) | (simp [*, errW_none, errW_some] <;> rfl), by repeat (first | (with_reducible first | exact HB.out | apply below_alloc | apply pw_below_drewN | apply below_drew1 | refine below_set ?_ GE169.out) | exact HB.out)⟩
        · rw [if_neg c8] at H
          have c8b0 : (t174.toList == ([97, 61, 50, 44, 98, 61, 34, 120, 34] : List UInt8)) = false := beq_eq_false_iff_ne.mpr c8
          have c8b1 : (t174.toList != ([97, 61, 50, 44, 98, 61, 34, 120, 34] : List UInt8)) = true := bne_iff_ne.mpr c8
          obtain rfl := Option.some.inj H
          go_enter Tryz.func3, Tryz.ntmps3
          go_wp2_with (first | ((with_reducible refine gate_dst (N := 8) rfl ?_); refine Kd.R_lit k25 _ 25 ?hg (N := 8) ?hd (xs := ([(⟨(⟨#[97]⟩ : ByteArray), (⟨false, 1, (⟨#[]⟩ : ByteArray)⟩ : S23)⟩ : S25), (⟨(⟨#[98]⟩ : ByteArray), (⟨true, 0, (⟨#[120]⟩ : ByteArray)⟩ : S23)⟩ : S25)] : List (S25))) (inner := [.string (⟨#[97]⟩ : ByteArray), .bool false, .int .i64 1, .string (⟨#[]⟩ : ByteArray), .string (⟨#[98]⟩ : ByteArray), .bool true, .int .i64 0, .string (⟨#[120]⟩ : ByteArray)]) (ok := fun _ => True) (okp := fun _ => True) ?hr ?hp (fun _ hk => hk) trivial (Below.refl _ _) (Nat.le_refl _) (by simp) ?_; (case hd => rfl); (case hg => rfl); (case hr => first | (go_simp; done) | (go_simp; rfl)); (case hp => exact (Reps.c4 (show Kd.M k25 _ _ _ (⟨(⟨#[97]⟩ : ByteArray), (⟨false, 1, (⟨#[]⟩ : ByteArray)⟩ : S23)⟩ : S25) [.string (⟨#[97]⟩ : ByteArray), .bool false, .int .i64 1, .string (⟨#[]⟩ : ByteArray)] from (k25_mkM _ _ _ (⟨(⟨#[97]⟩ : ByteArray), (⟨false, 1, (⟨#[]⟩ : ByteArray)⟩ : S23)⟩ : S25) )) (Reps.c4 (show Kd.M k25 _ _ _ (⟨(⟨#[98]⟩ : ByteArray), (⟨true, 0, (⟨#[120]⟩ : ByteArray)⟩ : S23)⟩ : S25) [.string (⟨#[98]⟩ : ByteArray), .bool true, .int .i64 0, .string (⟨#[120]⟩ : ByteArray)] from (k25_mkM _ _ _ (⟨(⟨#[98]⟩ : ByteArray), (⟨true, 0, (⟨#[120]⟩ : ByteArray)⟩ : S23)⟩ : S25) )) (Reps.none _ _)))); intro v163 w22 ho23 hb hg_ hnew_; clear hg_ hnew_; (first | rw [← Ny162.out] at ho23 | (simp only [Int.reduceToNat] at ho23; rw [← Ny162.out] at ho23)); have n0_ := Aside0.mk (Kd.R_lower ho23 (below_size (by repeat (first | (with_reducible first | exact HB.out | apply below_alloc | apply pw_below_drewN | apply below_drew1) | exact HB.out)))); have n1_ := Aside0.mk (below_step (by repeat (first | (with_reducible first | exact HB.out | apply below_alloc | apply pw_below_drewN | apply below_drew1) | exact HB.out)) hb); clear HB; have HO164 := n0_; have HB := n1_; clear n0_ n1_; clear hb ho23; obtain ⟨Ao24, co24, eo24⟩ := Kd.R_slice HO164.out; subst eo24) | ((with_reducible refine gate_callee (f := 8) rfl ?_); refine goesL_ (some 11) rfl rfl Tryz.func8 (by kernel_rfl) rfl #[.slice Ao24 y162.length co24, .string (⟨#[98]⟩ : ByteArray)] rfl (by (try simp only [List.map_toArray, List.map_cons, List.map_nil]); first | done | rfl | (simp only [List.length_drop, List.length_take]; rfl)) ?_; (with_reducible refine (tuple_Get.calls k _ _ y162 (⟨#[98]⟩ : ByteArray) t165 t166 t167 true _ ?side1 ?side2 A1.out).mono ?_); (case side1 => repeat (first | exact (Kd.R_reads' HO164.out).2.2 | (with_reducible refine Kd.C_alloc ?_ _) | (with_reducible refine Kd.C_drewN ?_ _) | (with_reducible refine Kd.C_drew ?_))); (case side2 => exact (Kd.R_reads' HO164.out).2.1); rintro e w25 ⟨rfl, hb⟩; refine ⟨_, rfl, ?_⟩; have n0_ := Aside0.mk (Kd.R_below (by (with_reducible repeat (first | apply Kd.R_alloc | apply Kd.R_drewN | apply Kd.R_drew)); exact HO164.out) hb); have n1_ := Aside0.mk (below_step (by repeat (first | (with_reducible first | exact HB.out | apply below_alloc | apply pw_below_drewN | apply below_drew1) | exact HB.out)) hb); clear HO164; clear HB; have HO164 := n0_; have HB := n1_; clear n0_ n1_; (try clear hb); (try clear hb2); (try clear hk); (try clear hi)) | ((with_reducible refine gate_dst (N := 2) rfl ?_); refine box_event ?hg (N := 2) ?hd (cs := #[.bool false, .int .i64 0, .string (⟨#[]⟩ : ByteArray)]) (t := 23) ?hr ?_; (case hd => rfl); (case hg => rfl); (case hr => first | (go_simp; done) | (go_simp; rfl)); intro gb169 hg w26 hbox hb; have n0_ := Aside0.mk (Kd.R_below (by (with_reducible repeat (first | apply Kd.R_alloc | apply Kd.R_drewN | apply Kd.R_drew)); exact HO164.out) hb); have n1_ := Aside0.mk (below_step (by repeat (first | (with_reducible first | exact HB.out | apply below_alloc | apply pw_below_drewN | apply below_drew1) | exact HB.out)) hb); have n2_ := Aside0.mk (hbox); have n3_ := Aside0.mk ((by rw [hg]; exact (below_size (by repeat (first | (with_reducible first | exact HB.out | apply below_alloc | apply pw_below_drewN | apply below_drew1) | exact HB.out))) : w.heap.size ≤ gb169)); have n4_ := Aside0.mk ((by rw [hg]; exact (below_size (by repeat (first | (with_reducible first | exact HB.out | apply below_alloc | apply pw_below_drewN | apply below_drew1) | exact HB.out))) : w.heap.size ≤ gb169)); clear HO164; clear HB; have HO164 := n0_; have HB := n1_; have BK169 := n2_; have GW169 := n3_; have GE169 := n4_; clear n0_ n1_ n2_ n3_ n4_; clear hb hbox hg; have hcz27_0 : w26.cell? ⟨gb169, 0, none⟩ = some (.bool false) := (blk_cell BK169.out 0).trans rfl; have hcz27_1 : w26.cell? ⟨gb169, 1, none⟩ = some (.int .i64 0) := (blk_cell BK169.out 1).trans rfl; have hcz27_2 : w26.cell? ⟨gb169, 2, none⟩ = some (.string (⟨#[]⟩ : ByteArray)) := (blk_cell BK169.out 2).trans rfl; have hfz27_0 := blk_frozen BK169.out 0; have hfz27_1 := blk_frozen BK169.out 1; have hfz27_2 := blk_frozen BK169.out 2) | ((with_reducible refine gate_callee (f := 9) rfl ?_); refine goesL_ (some 15) rfl rfl Tryz.func9 (by kernel_rfl) rfl #[.slice Ao24 y162.length co24] rfl (by (try simp only [List.map_toArray, List.map_cons, List.map_nil]); first | done | rfl | (simp only [List.length_drop, List.length_take]; rfl)) ?_; (with_reducible refine (tuple_Say.calls k _ _ y162 t170 _ ?side0 ?side1 ?side2 A2.out).mono ?_); (case side0 => exact Val.tb HTAB (by repeat (first | (with_reducible first | exact HB.out | apply below_alloc | apply pw_below_drewN | apply below_drew1 | refine below_set ?_ GE169.out) | exact HB.out))); (case side1 => refine (Kd.R_reads' (e := 25) (base := w.heap.size) (ok := fun k_ => True) (n := y162.length) (c := co24) ?_).2.2; exact (by (with_reducible repeat (first | apply Kd.R_alloc | apply Kd.R_drewN | apply Kd.R_drew)); exact (Kd.R_mono (Kd.R_far (p := ⟨gb169, 2, none⟩) (Kd.R_far (p := ⟨gb169, 1, none⟩) (Kd.R_far (p := ⟨gb169, 0, none⟩) (Kd.R_types HO164.out BK169.out (by decide)) (fun _ hk => hk.2) (.bool t165)) (fun _ hk => hk.2) (.int .i64 t166)) (fun _ hk => hk.2) (.string t167)) (fun _ h_ => h_.1)))); (case side2 => exact (Kd.R_reads' HO164.out).2.1); rintro e w28 ⟨rfl, hb⟩; refine ⟨_, rfl, ?_⟩; have n0_ := Aside0.mk (Kd.R_below (by (with_reducible repeat (first | apply Kd.R_alloc | apply Kd.R_drewN | apply Kd.R_drew)); exact (Kd.R_mono (Kd.R_far (p := ⟨gb169, 2, none⟩) (Kd.R_far (p := ⟨gb169, 1, none⟩) (Kd.R_far (p := ⟨gb169, 0, none⟩) (Kd.R_types HO164.out BK169.out (by decide)) (fun _ hk => hk.2) (.bool t165)) (fun _ hk => hk.2) (.int .i64 t166)) (fun _ hk => hk.2) (.string t167)) (fun _ h_ => h_.1))) hb); have n1_ := Aside0.mk (blk_below (g := gb169) (o := .cells #[.bool t165, .int .i64 t166, .string t167] 23 (0, 0)) (by (with_reducible repeat (first | refine blk_drewN ?_ _ | refine blk_drew ?_ | refine blk_alloc ?_ _)); refine blk_put (cs := #[.bool t165, .int .i64 t166, .string (⟨#[]⟩ : ByteArray)]) ?_ 2 _ rfl; (with_reducible repeat (first | refine blk_drewN ?_ _ | refine blk_drew ?_ | refine blk_alloc ?_ _)); refine blk_put (cs := #[.bool t165, .int .i64 0, .string (⟨#[]⟩ : ByteArray)]) ?_ 1 _ rfl; (with_reducible repeat (first | refine blk_drewN ?_ _ | refine blk_drew ?_ | refine blk_alloc ?_ _)); refine blk_put (cs := #[.bool false, .int .i64 0, .string (⟨#[]⟩ : ByteArray)]) ?_ 0 _ rfl; (with_reducible repeat (first | refine blk_drewN ?_ _ | refine blk_drew ?_ | refine blk_alloc ?_ _)); exact BK169.out) hb); have n2_ := Aside0.mk (below_step (by repeat (first | (with_reducible first | exact HB.out | apply below_alloc | apply pw_below_drewN | apply below_drew1 | refine below_set ?_ GE169.out) | exact HB.out)) hb); clear HO164; clear BK169; clear HB; have HO164 := n0_; have BK169 := n1_; have HB := n2_; clear n0_ n1_ n2_; (try clear hb); (try clear hb2); (try clear hk); (try clear hi); have hcz29_0 : w28.cell? ⟨gb169, 0, none⟩ = some (.bool t165) := (blk_cell BK169.out 0).trans rfl; have hcz29_1 : w28.cell? ⟨gb169, 1, none⟩ = some (.int .i64 t166) := (blk_cell BK169.out 1).trans rfl; have hcz29_2 : w28.cell? ⟨gb169, 2, none⟩ = some (.string t167) := (blk_cell BK169.out 2).trans rfl; have hfz29_0 := blk_frozen BK169.out 0; have hfz29_1 := blk_frozen BK169.out 1; have hfz29_2 := blk_frozen BK169.out 2) | (go_at_call 10; (with_reducible refine (tuple_Put.calls _ _ y162 (⟨#[97]⟩ : ByteArray) false 2 (⟨#[]⟩ : ByteArray) t171 _ ?side1 ?side2 A6.out).mono ?_); (case side1 => repeat (first | exact (Kd.R_reads' HO164.out).2.2 | (with_reducible refine Kd.C_alloc ?_ _) | (with_reducible refine Kd.C_drewN ?_ _) | (with_reducible refine Kd.C_drew ?_))); (case side2 => exact (Kd.R_reads' HO164.out).2.1); rintro e w30 ⟨v172, rfl, ho0, hb⟩; have n0_ := Aside0.mk (Kd.R_elder' (by (with_reducible repeat (first | apply Kd.R_alloc | apply Kd.R_drewN | apply Kd.R_drew)); exact HO164.out) (Kd.R_base ho0) hb); have n1_ := Aside0.mk (Kd.R_lower (Kd.R_new' ho0 (Kd.R_lt (by (with_reducible repeat (first | apply Kd.R_alloc | apply Kd.R_drewN | apply Kd.R_drew)); exact HO164.out))) (below_size (by repeat (first | (with_reducible first | exact HB.out | apply below_alloc | apply pw_below_drewN | apply below_drew1 | refine below_set ?_ GE169.out) | exact HB.out)))); have n2_ := Aside0.mk (blk_below (g := gb169) (o := .cells #[.bool t165, .int .i64 t166, .string t167] 23 (0, 0)) (by (with_reducible repeat (first | refine blk_drewN ?_ _ | refine blk_drew ?_ | refine blk_alloc ?_ _)); exact BK169.out) hb); have n3_ := Aside0.mk (below_step (by repeat (first | (with_reducible first | exact HB.out | apply below_alloc | apply pw_below_drewN | apply below_drew1 | refine below_set ?_ GE169.out) | exact HB.out)) hb); clear HO164; clear BK169; clear HB; have HO164 := n0_; have HO173 := n1_; have BK169 := n2_; have HB := n3_; clear n0_ n1_ n2_ n3_; (try clear hb); (try clear hb2); (try clear hk); (try clear hi); (try clear ho0); obtain ⟨Ao31, co31, eo31⟩ := Kd.R_slice HO173.out; subst eo31) | (go_at_call 9; (with_reducible refine (tuple_Say.calls k _ _ t171 t174 _ ?side0 ?side1 ?side2 A7.out).mono ?_); (case side0 => exact Val.tb HTAB (by repeat (first | (with_reducible first | exact HB.out | apply below_alloc | apply pw_below_drewN | apply below_drew1 | refine below_set ?_ GE169.out) | exact HB.out))); (case side1 => repeat (first | exact (Kd.R_reads' HO173.out).2.2 | (with_reducible refine Kd.C_alloc ?_ _) | (with_reducible refine Kd.C_drewN ?_ _) | (with_reducible refine Kd.C_drew ?_))); (case side2 => exact (Kd.R_reads' HO173.out).2.1); rintro e w32 ⟨rfl, hb⟩; have n0_ := Aside0.mk (Kd.R_below (by (with_reducible repeat (first | apply Kd.R_alloc | apply Kd.R_drewN | apply Kd.R_drew)); exact HO164.out) hb); have n1_ := Aside0.mk (Kd.R_below (by (with_reducible repeat (first | apply Kd.R_alloc | apply Kd.R_drewN | apply Kd.R_drew)); exact HO173.out) hb); have n2_ := Aside0.mk (blk_below (g := gb169) (o := .cells #[.bool t165, .int .i64 t166, .string t167] 23 (0, 0)) (by (with_reducible repeat (first | refine blk_drewN ?_ _ | refine blk_drew ?_ | refine blk_alloc ?_ _)); exact BK169.out) hb); have n3_ := Aside0.mk (below_step (by repeat (first | (with_reducible first | exact HB.out | apply below_alloc | apply pw_below_drewN | apply below_drew1 | refine below_set ?_ GE169.out) | exact HB.out)) hb); clear HO164; clear HO173; clear BK169; clear HB; have HO164 := n0_; have HO173 := n1_; have BK169 := n2_; have HB := n3_; clear n0_ n1_ n2_ n3_; (try clear hb); (try clear hb2); (try clear hk); (try clear hi)))
          go_ret
          exact ⟨by first | rfl | (simp [errW_none, errW_some] <;> rfl) | (simp [*, errW_none, errW_some] <;> rfl), by repeat (first | (with_reducible first | exact HB.out | apply below_alloc | apply pw_below_drewN | apply below_drew1 | refine below_set ?_ GE169.out) | exact HB.out)⟩
      · replace c5 := Bool.eq_false_iff.mpr c5
        subst c5
        have H1 : (some false) = some r := by rw [if_neg (show ¬ (false = true) by decide)] at H; exact H
        clear H
        have H := H1
        clear H1
        obtain rfl := Option.some.inj H
        go_enter Tryz.func3, Tryz.ntmps3
        go_wp2_with (first | ((with_reducible refine gate_dst (N := 8) rfl ?_); refine Kd.R_lit k25 _ 25 ?hg (N := 8) ?hd (xs := ([(⟨(⟨#[97]⟩ : ByteArray), (⟨false, 1, (⟨#[]⟩ : ByteArray)⟩ : S23)⟩ : S25), (⟨(⟨#[98]⟩ : ByteArray), (⟨true, 0, (⟨#[120]⟩ : ByteArray)⟩ : S23)⟩ : S25)] : List (S25))) (inner := [.string (⟨#[97]⟩ : ByteArray), .bool false, .int .i64 1, .string (⟨#[]⟩ : ByteArray), .string (⟨#[98]⟩ : ByteArray), .bool true, .int .i64 0, .string (⟨#[120]⟩ : ByteArray)]) (ok := fun _ => True) (okp := fun _ => True) ?hr ?hp (fun _ hk => hk) trivial (Below.refl _ _) (Nat.le_refl _) (by simp) ?_; (case hd => rfl); (case hg => rfl); (case hr => first | (go_simp; done) | (go_simp; rfl)); (case hp => exact (Reps.c4 (show Kd.M k25 _ _ _ (⟨(⟨#[97]⟩ : ByteArray), (⟨false, 1, (⟨#[]⟩ : ByteArray)⟩ : S23)⟩ : S25) [.string (⟨#[97]⟩ : ByteArray), .bool false, .int .i64 1, .string (⟨#[]⟩ : ByteArray)] from (k25_mkM _ _ _ (⟨(⟨#[97]⟩ : ByteArray), (⟨false, 1, (⟨#[]⟩ : ByteArray)⟩ : S23)⟩ : S25) )) (Reps.c4 (show Kd.M k25 _ _ _ (⟨(⟨#[98]⟩ : ByteArray), (⟨true, 0, (⟨#[120]⟩ : ByteArray)⟩ : S23)⟩ : S25) [.string (⟨#[98]⟩ : ByteArray), .bool true, .int .i64 0, .string (⟨#[120]⟩ : ByteArray)] from (k25_mkM _ _ _ (⟨(⟨#[98]⟩ : ByteArray), (⟨true, 0, (⟨#[120]⟩ : ByteArray)⟩ : S23)⟩ : S25) )) (Reps.none _ _)))); intro v163 w33 ho34 hb hg_ hnew_; clear hg_ hnew_; (first | rw [← Ny162.out] at ho34 | (simp only [Int.reduceToNat] at ho34; rw [← Ny162.out] at ho34)); have n0_ := Aside0.mk (Kd.R_lower ho34 (below_size (by repeat (first | (with_reducible first | exact HB.out | apply below_alloc | apply pw_below_drewN | apply below_drew1) | exact HB.out)))); have n1_ := Aside0.mk (below_step (by repeat (first | (with_reducible first | exact HB.out | apply below_alloc | apply pw_below_drewN | apply below_drew1) | exact HB.out)) hb); clear HB; have HO164 := n0_; have HB := n1_; clear n0_ n1_; clear hb ho34; obtain ⟨Ao35, co35, eo35⟩ := Kd.R_slice HO164.out; subst eo35) | ((with_reducible refine gate_callee (f := 8) rfl ?_); refine goesL_ (some 11) rfl rfl Tryz.func8 (by kernel_rfl) rfl #[.slice Ao35 y162.length co35, .string (⟨#[98]⟩ : ByteArray)] rfl (by (try simp only [List.map_toArray, List.map_cons, List.map_nil]); first | done | rfl | (simp only [List.length_drop, List.length_take]; rfl)) ?_; (with_reducible refine (tuple_Get.calls k _ _ y162 (⟨#[98]⟩ : ByteArray) t165 t166 t167 false _ ?side1 ?side2 A1.out).mono ?_); (case side1 => repeat (first | exact (Kd.R_reads' HO164.out).2.2 | (with_reducible refine Kd.C_alloc ?_ _) | (with_reducible refine Kd.C_drewN ?_ _) | (with_reducible refine Kd.C_drew ?_))); (case side2 => exact (Kd.R_reads' HO164.out).2.1); rintro e w36 ⟨rfl, hb⟩; refine ⟨_, rfl, ?_⟩; have n0_ := Aside0.mk (Kd.R_below (by (with_reducible repeat (first | apply Kd.R_alloc | apply Kd.R_drewN | apply Kd.R_drew)); exact HO164.out) hb); have n1_ := Aside0.mk (below_step (by repeat (first | (with_reducible first | exact HB.out | apply below_alloc | apply pw_below_drewN | apply below_drew1) | exact HB.out)) hb); clear HO164; clear HB; have HO164 := n0_; have HB := n1_; clear n0_ n1_; (try clear hb); (try clear hb2); (try clear hk); (try clear hi)) | ((with_reducible refine gate_dst (N := 2) rfl ?_); refine box_event ?hg (N := 2) ?hd (cs := #[.bool false, .int .i64 0, .string (⟨#[]⟩ : ByteArray)]) (t := 23) ?hr ?_; (case hd => rfl); (case hg => rfl); (case hr => first | (go_simp; done) | (go_simp; rfl)); intro gb169 hg w37 hbox hb; have n0_ := Aside0.mk (Kd.R_below (by (with_reducible repeat (first | apply Kd.R_alloc | apply Kd.R_drewN | apply Kd.R_drew)); exact HO164.out) hb); have n1_ := Aside0.mk (below_step (by repeat (first | (with_reducible first | exact HB.out | apply below_alloc | apply pw_below_drewN | apply below_drew1) | exact HB.out)) hb); have n2_ := Aside0.mk (hbox); have n3_ := Aside0.mk ((by rw [hg]; exact (below_size (by repeat (first | (with_reducible first | exact HB.out | apply below_alloc | apply pw_below_drewN | apply below_drew1) | exact HB.out))) : w.heap.size ≤ gb169)); have n4_ := Aside0.mk ((by rw [hg]; exact (below_size (by repeat (first | (with_reducible first | exact HB.out | apply below_alloc | apply pw_below_drewN | apply below_drew1) | exact HB.out))) : w.heap.size ≤ gb169)); clear HO164; clear HB; have HO164 := n0_; have HB := n1_; have BK169 := n2_; have GW169 := n3_; have GE169 := n4_; clear n0_ n1_ n2_ n3_ n4_; clear hb hbox hg; have hcz38_0 : w37.cell? ⟨gb169, 0, none⟩ = some (.bool false) := (blk_cell BK169.out 0).trans rfl; have hcz38_1 : w37.cell? ⟨gb169, 1, none⟩ = some (.int .i64 0) := (blk_cell BK169.out 1).trans rfl; have hcz38_2 : w37.cell? ⟨gb169, 2, none⟩ = some (.string (⟨#[]⟩ : ByteArray)) := (blk_cell BK169.out 2).trans rfl; have hfz38_0 := blk_frozen BK169.out 0; have hfz38_1 := blk_frozen BK169.out 1; have hfz38_2 := blk_frozen BK169.out 2) | ((with_reducible refine gate_callee (f := 9) rfl ?_); refine goesL_ (some 15) rfl rfl Tryz.func9 (by kernel_rfl) rfl #[.slice Ao35 y162.length co35] rfl (by (try simp only [List.map_toArray, List.map_cons, List.map_nil]); first | done | rfl | (simp only [List.length_drop, List.length_take]; rfl)) ?_; (with_reducible refine (tuple_Say.calls k _ _ y162 t170 _ ?side0 ?side1 ?side2 A2.out).mono ?_); (case side0 => exact Val.tb HTAB (by repeat (first | (with_reducible first | exact HB.out | apply below_alloc | apply pw_below_drewN | apply below_drew1 | refine below_set ?_ GE169.out) | exact HB.out))); (case side1 => refine (Kd.R_reads' (e := 25) (base := w.heap.size) (ok := fun k_ => True) (n := y162.length) (c := co35) ?_).2.2; exact (by (with_reducible repeat (first | apply Kd.R_alloc | apply Kd.R_drewN | apply Kd.R_drew)); exact (Kd.R_mono (Kd.R_far (p := ⟨gb169, 2, none⟩) (Kd.R_far (p := ⟨gb169, 1, none⟩) (Kd.R_far (p := ⟨gb169, 0, none⟩) (Kd.R_types HO164.out BK169.out (by decide)) (fun _ hk => hk.2) (.bool t165)) (fun _ hk => hk.2) (.int .i64 t166)) (fun _ hk => hk.2) (.string t167)) (fun _ h_ => h_.1)))); (case side2 => exact (Kd.R_reads' HO164.out).2.1); rintro e w39 ⟨rfl, hb⟩; refine ⟨_, rfl, ?_⟩; have n0_ := Aside0.mk (Kd.R_below (by (with_reducible repeat (first | apply Kd.R_alloc | apply Kd.R_drewN | apply Kd.R_drew)); exact (Kd.R_mono (Kd.R_far (p := ⟨gb169, 2, none⟩) (Kd.R_far (p := ⟨gb169, 1, none⟩) (Kd.R_far (p := ⟨gb169, 0, none⟩) (Kd.R_types HO164.out BK169.out (by decide)) (fun _ hk => hk.2) (.bool t165)) (fun _ hk => hk.2) (.int .i64 t166)) (fun _ hk => hk.2) (.string t167)) (fun _ h_ => h_.1))) hb); have n1_ := Aside0.mk (blk_below (g := gb169) (o := .cells #[.bool t165, .int .i64 t166, .string t167] 23 (0, 0)) (by (with_reducible repeat (first | refine blk_drewN ?_ _ | refine blk_drew ?_ | refine blk_alloc ?_ _)); refine blk_put (cs := #[.bool t165, .int .i64 t166, .string (⟨#[]⟩ : ByteArray)]) ?_ 2 _ rfl; (with_reducible repeat (first | refine blk_drewN ?_ _ | refine blk_drew ?_ | refine blk_alloc ?_ _)); refine blk_put (cs := #[.bool t165, .int .i64 0, .string (⟨#[]⟩ : ByteArray)]) ?_ 1 _ rfl; (with_reducible repeat (first | refine blk_drewN ?_ _ | refine blk_drew ?_ | refine blk_alloc ?_ _)); refine blk_put (cs := #[.bool false, .int .i64 0, .string (⟨#[]⟩ : ByteArray)]) ?_ 0 _ rfl; (with_reducible repeat (first | refine blk_drewN ?_ _ | refine blk_drew ?_ | refine blk_alloc ?_ _)); exact BK169.out) hb); have n2_ := Aside0.mk (below_step (by repeat (first | (with_reducible first | exact HB.out | apply below_alloc | apply pw_below_drewN | apply below_drew1 | refine below_set ?_ GE169.out) | exact HB.out)) hb); clear HO164; clear BK169; clear HB; have HO164 := n0_; have BK169 := n1_; have HB := n2_; clear n0_ n1_ n2_; (try clear hb); (try clear hb2); (try clear hk); (try clear hi); have hcz40_0 : w39.cell? ⟨gb169, 0, none⟩ = some (.bool t165) := (blk_cell BK169.out 0).trans rfl; have hcz40_1 : w39.cell? ⟨gb169, 1, none⟩ = some (.int .i64 t166) := (blk_cell BK169.out 1).trans rfl; have hcz40_2 : w39.cell? ⟨gb169, 2, none⟩ = some (.string t167) := (blk_cell BK169.out 2).trans rfl; have hfz40_0 := blk_frozen BK169.out 0; have hfz40_1 := blk_frozen BK169.out 1; have hfz40_2 := blk_frozen BK169.out 2))
        go_ret
        exact ⟨by first | rfl | (simp [errW_none, errW_some] <;> rfl) | (simp [*, errW_none, errW_some] <;> rfl), by repeat (first | (with_reducible first | exact HB.out | apply below_alloc | apply pw_below_drewN | apply below_drew1 | refine below_set ?_ GE169.out) | exact HB.out)⟩
    · rw [if_neg c4] at H
      have c4b0 : (t167.toList == ([120] : List UInt8)) = false := beq_eq_false_iff_ne.mpr c4
      have c4b1 : (t167.toList != ([120] : List UInt8)) = true := bne_iff_ne.mpr c4
      obtain rfl := Option.some.inj H
      go_enter Tryz.func3, Tryz.ntmps3
      go_wp2_with (first | ((with_reducible refine gate_dst (N := 8) rfl ?_); refine Kd.R_lit k25 _ 25 ?hg (N := 8) ?hd (xs := ([(⟨(⟨#[97]⟩ : ByteArray), (⟨false, 1, (⟨#[]⟩ : ByteArray)⟩ : S23)⟩ : S25), (⟨(⟨#[98]⟩ : ByteArray), (⟨true, 0, (⟨#[120]⟩ : ByteArray)⟩ : S23)⟩ : S25)] : List (S25))) (inner := [.string (⟨#[97]⟩ : ByteArray), .bool false, .int .i64 1, .string (⟨#[]⟩ : ByteArray), .string (⟨#[98]⟩ : ByteArray), .bool true, .int .i64 0, .string (⟨#[120]⟩ : ByteArray)]) (ok := fun _ => True) (okp := fun _ => True) ?hr ?hp (fun _ hk => hk) trivial (Below.refl _ _) (Nat.le_refl _) (by simp) ?_; (case hd => rfl); (case hg => rfl); (case hr => first | (go_simp; done) | (go_simp; rfl)); (case hp => exact (Reps.c4 (show Kd.M k25 _ _ _ (⟨(⟨#[97]⟩ : ByteArray), (⟨false, 1, (⟨#[]⟩ : ByteArray)⟩ : S23)⟩ : S25) [.string (⟨#[97]⟩ : ByteArray), .bool false, .int .i64 1, .string (⟨#[]⟩ : ByteArray)] from (k25_mkM _ _ _ (⟨(⟨#[97]⟩ : ByteArray), (⟨false, 1, (⟨#[]⟩ : ByteArray)⟩ : S23)⟩ : S25) )) (Reps.c4 (show Kd.M k25 _ _ _ (⟨(⟨#[98]⟩ : ByteArray), (⟨true, 0, (⟨#[120]⟩ : ByteArray)⟩ : S23)⟩ : S25) [.string (⟨#[98]⟩ : ByteArray), .bool true, .int .i64 0, .string (⟨#[120]⟩ : ByteArray)] from (k25_mkM _ _ _ (⟨(⟨#[98]⟩ : ByteArray), (⟨true, 0, (⟨#[120]⟩ : ByteArray)⟩ : S23)⟩ : S25) )) (Reps.none _ _)))); intro v163 w41 ho42 hb hg_ hnew_; clear hg_ hnew_; (first | rw [← Ny162.out] at ho42 | (simp only [Int.reduceToNat] at ho42; rw [← Ny162.out] at ho42)); have n0_ := Aside0.mk (Kd.R_lower ho42 (below_size (by repeat (first | (with_reducible first | exact HB.out | apply below_alloc | apply pw_below_drewN | apply below_drew1) | exact HB.out)))); have n1_ := Aside0.mk (below_step (by repeat (first | (with_reducible first | exact HB.out | apply below_alloc | apply pw_below_drewN | apply below_drew1) | exact HB.out)) hb); clear HB; have HO164 := n0_; have HB := n1_; clear n0_ n1_; clear hb ho42; obtain ⟨Ao43, co43, eo43⟩ := Kd.R_slice HO164.out; subst eo43) | ((with_reducible refine gate_callee (f := 8) rfl ?_); refine goesL_ (some 11) rfl rfl Tryz.func8 (by kernel_rfl) rfl #[.slice Ao43 y162.length co43, .string (⟨#[98]⟩ : ByteArray)] rfl (by (try simp only [List.map_toArray, List.map_cons, List.map_nil]); first | done | rfl | (simp only [List.length_drop, List.length_take]; rfl)) ?_; (with_reducible refine (tuple_Get.calls k _ _ y162 (⟨#[98]⟩ : ByteArray) t165 t166 t167 t168 _ ?side1 ?side2 A1.out).mono ?_); (case side1 => repeat (first | exact (Kd.R_reads' HO164.out).2.2 | (with_reducible refine Kd.C_alloc ?_ _) | (with_reducible refine Kd.C_drewN ?_ _) | (with_reducible refine Kd.C_drew ?_))); (case side2 => exact (Kd.R_reads' HO164.out).2.1); rintro e w44 ⟨rfl, hb⟩; refine ⟨_, rfl, ?_⟩; have n0_ := Aside0.mk (Kd.R_below (by (with_reducible repeat (first | apply Kd.R_alloc | apply Kd.R_drewN | apply Kd.R_drew)); exact HO164.out) hb); have n1_ := Aside0.mk (below_step (by repeat (first | (with_reducible first | exact HB.out | apply below_alloc | apply pw_below_drewN | apply below_drew1) | exact HB.out)) hb); clear HO164; clear HB; have HO164 := n0_; have HB := n1_; clear n0_ n1_; (try clear hb); (try clear hb2); (try clear hk); (try clear hi)) | ((with_reducible refine gate_dst (N := 2) rfl ?_); refine box_event ?hg (N := 2) ?hd (cs := #[.bool false, .int .i64 0, .string (⟨#[]⟩ : ByteArray)]) (t := 23) ?hr ?_; (case hd => rfl); (case hg => rfl); (case hr => first | (go_simp; done) | (go_simp; rfl)); intro gb169 hg w45 hbox hb; have n0_ := Aside0.mk (Kd.R_below (by (with_reducible repeat (first | apply Kd.R_alloc | apply Kd.R_drewN | apply Kd.R_drew)); exact HO164.out) hb); have n1_ := Aside0.mk (below_step (by repeat (first | (with_reducible first | exact HB.out | apply below_alloc | apply pw_below_drewN | apply below_drew1) | exact HB.out)) hb); have n2_ := Aside0.mk (hbox); have n3_ := Aside0.mk ((by rw [hg]; exact (below_size (by repeat (first | (with_reducible first | exact HB.out | apply below_alloc | apply pw_below_drewN | apply below_drew1) | exact HB.out))) : w.heap.size ≤ gb169)); have n4_ := Aside0.mk ((by rw [hg]; exact (below_size (by repeat (first | (with_reducible first | exact HB.out | apply below_alloc | apply pw_below_drewN | apply below_drew1) | exact HB.out))) : w.heap.size ≤ gb169)); clear HO164; clear HB; have HO164 := n0_; have HB := n1_; have BK169 := n2_; have GW169 := n3_; have GE169 := n4_; clear n0_ n1_ n2_ n3_ n4_; clear hb hbox hg; have hcz46_0 : w45.cell? ⟨gb169, 0, none⟩ = some (.bool false) := (blk_cell BK169.out 0).trans rfl; have hcz46_1 : w45.cell? ⟨gb169, 1, none⟩ = some (.int .i64 0) := (blk_cell BK169.out 1).trans rfl; have hcz46_2 : w45.cell? ⟨gb169, 2, none⟩ = some (.string (⟨#[]⟩ : ByteArray)) := (blk_cell BK169.out 2).trans rfl; have hfz46_0 := blk_frozen BK169.out 0; have hfz46_1 := blk_frozen BK169.out 1; have hfz46_2 := blk_frozen BK169.out 2) | ((with_reducible refine gate_callee (f := 9) rfl ?_); refine goesL_ (some 15) rfl rfl Tryz.func9 (by kernel_rfl) rfl #[.slice Ao43 y162.length co43] rfl (by (try simp only [List.map_toArray, List.map_cons, List.map_nil]); first | done | rfl | (simp only [List.length_drop, List.length_take]; rfl)) ?_; (with_reducible refine (tuple_Say.calls k _ _ y162 t170 _ ?side0 ?side1 ?side2 A2.out).mono ?_); (case side0 => exact Val.tb HTAB (by repeat (first | (with_reducible first | exact HB.out | apply below_alloc | apply pw_below_drewN | apply below_drew1 | refine below_set ?_ GE169.out) | exact HB.out))); (case side1 => refine (Kd.R_reads' (e := 25) (base := w.heap.size) (ok := fun k_ => True) (n := y162.length) (c := co43) ?_).2.2; exact (by (with_reducible repeat (first | apply Kd.R_alloc | apply Kd.R_drewN | apply Kd.R_drew)); exact (Kd.R_mono (Kd.R_far (p := ⟨gb169, 2, none⟩) (Kd.R_far (p := ⟨gb169, 1, none⟩) (Kd.R_far (p := ⟨gb169, 0, none⟩) (Kd.R_types HO164.out BK169.out (by decide)) (fun _ hk => hk.2) (.bool t165)) (fun _ hk => hk.2) (.int .i64 t166)) (fun _ hk => hk.2) (.string t167)) (fun _ h_ => h_.1)))); (case side2 => exact (Kd.R_reads' HO164.out).2.1); rintro e w47 ⟨rfl, hb⟩; refine ⟨_, rfl, ?_⟩; have n0_ := Aside0.mk (Kd.R_below (by (with_reducible repeat (first | apply Kd.R_alloc | apply Kd.R_drewN | apply Kd.R_drew)); exact (Kd.R_mono (Kd.R_far (p := ⟨gb169, 2, none⟩) (Kd.R_far (p := ⟨gb169, 1, none⟩) (Kd.R_far (p := ⟨gb169, 0, none⟩) (Kd.R_types HO164.out BK169.out (by decide)) (fun _ hk => hk.2) (.bool t165)) (fun _ hk => hk.2) (.int .i64 t166)) (fun _ hk => hk.2) (.string t167)) (fun _ h_ => h_.1))) hb); have n1_ := Aside0.mk (blk_below (g := gb169) (o := .cells #[.bool t165, .int .i64 t166, .string t167] 23 (0, 0)) (by (with_reducible repeat (first | refine blk_drewN ?_ _ | refine blk_drew ?_ | refine blk_alloc ?_ _)); refine blk_put (cs := #[.bool t165, .int .i64 t166, .string (⟨#[]⟩ : ByteArray)]) ?_ 2 _ rfl; (with_reducible repeat (first | refine blk_drewN ?_ _ | refine blk_drew ?_ | refine blk_alloc ?_ _)); refine blk_put (cs := #[.bool t165, .int .i64 0, .string (⟨#[]⟩ : ByteArray)]) ?_ 1 _ rfl; (with_reducible repeat (first | refine blk_drewN ?_ _ | refine blk_drew ?_ | refine blk_alloc ?_ _)); refine blk_put (cs := #[.bool false, .int .i64 0, .string (⟨#[]⟩ : ByteArray)]) ?_ 0 _ rfl; (with_reducible repeat (first | refine blk_drewN ?_ _ | refine blk_drew ?_ | refine blk_alloc ?_ _)); exact BK169.out) hb); have n2_ := Aside0.mk (below_step (by repeat (first | (with_reducible first | exact HB.out | apply below_alloc | apply pw_below_drewN | apply below_drew1 | refine below_set ?_ GE169.out) | exact HB.out)) hb); clear HO164; clear BK169; clear HB; have HO164 := n0_; have BK169 := n1_; have HB := n2_; clear n0_ n1_ n2_; (try clear hb); (try clear hb2); (try clear hk); (try clear hi); have hcz48_0 : w47.cell? ⟨gb169, 0, none⟩ = some (.bool t165) := (blk_cell BK169.out 0).trans rfl; have hcz48_1 : w47.cell? ⟨gb169, 1, none⟩ = some (.int .i64 t166) := (blk_cell BK169.out 1).trans rfl; have hcz48_2 : w47.cell? ⟨gb169, 2, none⟩ = some (.string t167) := (blk_cell BK169.out 2).trans rfl; have hfz48_0 := blk_frozen BK169.out 0; have hfz48_1 := blk_frozen BK169.out 1; have hfz48_2 := blk_frozen BK169.out 2))
      go_ret
      exact ⟨by first | rfl | (simp [errW_none, errW_some] <;> rfl) | (simp [*, errW_none, errW_some] <;> rfl), by repeat (first | (with_reducible first | exact HB.out | apply below_alloc | apply pw_below_drewN | apply below_drew1 | refine below_set ?_ GE169.out) | exact HB.out)⟩
  · rw [if_neg c3] at H
    have c3b0 : (t170.toList == ([97, 61, 49, 44, 98, 61, 34, 120, 34] : List UInt8)) = false := beq_eq_false_iff_ne.mpr c3
    have c3b1 : (t170.toList != ([97, 61, 49, 44, 98, 61, 34, 120, 34] : List UInt8)) = true := bne_iff_ne.mpr c3
    obtain rfl := Option.some.inj H
    go_enter Tryz.func3, Tryz.ntmps3
    go_wp2_with (first | ((with_reducible refine gate_dst (N := 8) rfl ?_); refine Kd.R_lit k25 _ 25 ?hg (N := 8) ?hd (xs := ([(⟨(⟨#[97]⟩ : ByteArray), (⟨false, 1, (⟨#[]⟩ : ByteArray)⟩ : S23)⟩ : S25), (⟨(⟨#[98]⟩ : ByteArray), (⟨true, 0, (⟨#[120]⟩ : ByteArray)⟩ : S23)⟩ : S25)] : List (S25))) (inner := [.string (⟨#[97]⟩ : ByteArray), .bool false, .int .i64 1, .string (⟨#[]⟩ : ByteArray), .string (⟨#[98]⟩ : ByteArray), .bool true, .int .i64 0, .string (⟨#[120]⟩ : ByteArray)]) (ok := fun _ => True) (okp := fun _ => True) ?hr ?hp (fun _ hk => hk) trivial (Below.refl _ _) (Nat.le_refl _) (by simp) ?_; (case hd => rfl); (case hg => rfl); (case hr => first | (go_simp; done) | (go_simp; rfl)); (case hp => exact (Reps.c4 (show Kd.M k25 _ _ _ (⟨(⟨#[97]⟩ : ByteArray), (⟨false, 1, (⟨#[]⟩ : ByteArray)⟩ : S23)⟩ : S25) [.string (⟨#[97]⟩ : ByteArray), .bool false, .int .i64 1, .string (⟨#[]⟩ : ByteArray)] from (k25_mkM _ _ _ (⟨(⟨#[97]⟩ : ByteArray), (⟨false, 1, (⟨#[]⟩ : ByteArray)⟩ : S23)⟩ : S25) )) (Reps.c4 (show Kd.M k25 _ _ _ (⟨(⟨#[98]⟩ : ByteArray), (⟨true, 0, (⟨#[120]⟩ : ByteArray)⟩ : S23)⟩ : S25) [.string (⟨#[98]⟩ : ByteArray), .bool true, .int .i64 0, .string (⟨#[120]⟩ : ByteArray)] from (k25_mkM _ _ _ (⟨(⟨#[98]⟩ : ByteArray), (⟨true, 0, (⟨#[120]⟩ : ByteArray)⟩ : S23)⟩ : S25) )) (Reps.none _ _)))); intro v163 w49 ho50 hb hg_ hnew_; clear hg_ hnew_; (first | rw [← Ny162.out] at ho50 | (simp only [Int.reduceToNat] at ho50; rw [← Ny162.out] at ho50)); have n0_ := Aside0.mk (Kd.R_lower ho50 (below_size (by repeat (first | (with_reducible first | exact HB.out | apply below_alloc | apply pw_below_drewN | apply below_drew1) | exact HB.out)))); have n1_ := Aside0.mk (below_step (by repeat (first | (with_reducible first | exact HB.out | apply below_alloc | apply pw_below_drewN | apply below_drew1) | exact HB.out)) hb); clear HB; have HO164 := n0_; have HB := n1_; clear n0_ n1_; clear hb ho50; obtain ⟨Ao51, co51, eo51⟩ := Kd.R_slice HO164.out; subst eo51) | ((with_reducible refine gate_callee (f := 8) rfl ?_); refine goesL_ (some 11) rfl rfl Tryz.func8 (by kernel_rfl) rfl #[.slice Ao51 y162.length co51, .string (⟨#[98]⟩ : ByteArray)] rfl (by (try simp only [List.map_toArray, List.map_cons, List.map_nil]); first | done | rfl | (simp only [List.length_drop, List.length_take]; rfl)) ?_; (with_reducible refine (tuple_Get.calls k _ _ y162 (⟨#[98]⟩ : ByteArray) t165 t166 t167 t168 _ ?side1 ?side2 A1.out).mono ?_); (case side1 => repeat (first | exact (Kd.R_reads' HO164.out).2.2 | (with_reducible refine Kd.C_alloc ?_ _) | (with_reducible refine Kd.C_drewN ?_ _) | (with_reducible refine Kd.C_drew ?_))); (case side2 => exact (Kd.R_reads' HO164.out).2.1); rintro e w52 ⟨rfl, hb⟩; refine ⟨_, rfl, ?_⟩; have n0_ := Aside0.mk (Kd.R_below (by (with_reducible repeat (first | apply Kd.R_alloc | apply Kd.R_drewN | apply Kd.R_drew)); exact HO164.out) hb); have n1_ := Aside0.mk (below_step (by repeat (first | (with_reducible first | exact HB.out | apply below_alloc | apply pw_below_drewN | apply below_drew1) | exact HB.out)) hb); clear HO164; clear HB; have HO164 := n0_; have HB := n1_; clear n0_ n1_; (try clear hb); (try clear hb2); (try clear hk); (try clear hi)) | ((with_reducible refine gate_dst (N := 2) rfl ?_); refine box_event ?hg (N := 2) ?hd (cs := #[.bool false, .int .i64 0, .string (⟨#[]⟩ : ByteArray)]) (t := 23) ?hr ?_; (case hd => rfl); (case hg => rfl); (case hr => first | (go_simp; done) | (go_simp; rfl)); intro gb169 hg w53 hbox hb; have n0_ := Aside0.mk (Kd.R_below (by (with_reducible repeat (first | apply Kd.R_alloc | apply Kd.R_drewN | apply Kd.R_drew)); exact HO164.out) hb); have n1_ := Aside0.mk (below_step (by repeat (first | (with_reducible first | exact HB.out | apply below_alloc | apply pw_below_drewN | apply below_drew1) | exact HB.out)) hb); have n2_ := Aside0.mk (hbox); have n3_ := Aside0.mk ((by rw [hg]; exact (below_size (by repeat (first | (with_reducible first | exact HB.out | apply below_alloc | apply pw_below_drewN | apply below_drew1) | exact HB.out))) : w.heap.size ≤ gb169)); have n4_ := Aside0.mk ((by rw [hg]; exact (below_size (by repeat (first | (with_reducible first | exact HB.out | apply below_alloc | apply pw_below_drewN | apply below_drew1) | exact HB.out))) : w.heap.size ≤ gb169)); clear HO164; clear HB; have HO164 := n0_; have HB := n1_; have BK169 := n2_; have GW169 := n3_; have GE169 := n4_; clear n0_ n1_ n2_ n3_ n4_; clear hb hbox hg; have hcz54_0 : w53.cell? ⟨gb169, 0, none⟩ = some (.bool false) := (blk_cell BK169.out 0).trans rfl; have hcz54_1 : w53.cell? ⟨gb169, 1, none⟩ = some (.int .i64 0) := (blk_cell BK169.out 1).trans rfl; have hcz54_2 : w53.cell? ⟨gb169, 2, none⟩ = some (.string (⟨#[]⟩ : ByteArray)) := (blk_cell BK169.out 2).trans rfl; have hfz54_0 := blk_frozen BK169.out 0; have hfz54_1 := blk_frozen BK169.out 1; have hfz54_2 := blk_frozen BK169.out 2) | ((with_reducible refine gate_callee (f := 9) rfl ?_); refine goesL_ (some 15) rfl rfl Tryz.func9 (by kernel_rfl) rfl #[.slice Ao51 y162.length co51] rfl (by (try simp only [List.map_toArray, List.map_cons, List.map_nil]); first | done | rfl | (simp only [List.length_drop, List.length_take]; rfl)) ?_; (with_reducible refine (tuple_Say.calls k _ _ y162 t170 _ ?side0 ?side1 ?side2 A2.out).mono ?_); (case side0 => exact Val.tb HTAB (by repeat (first | (with_reducible first | exact HB.out | apply below_alloc | apply pw_below_drewN | apply below_drew1 | refine below_set ?_ GE169.out) | exact HB.out))); (case side1 => refine (Kd.R_reads' (e := 25) (base := w.heap.size) (ok := fun k_ => True) (n := y162.length) (c := co51) ?_).2.2; exact (by (with_reducible repeat (first | apply Kd.R_alloc | apply Kd.R_drewN | apply Kd.R_drew)); exact (Kd.R_mono (Kd.R_far (p := ⟨gb169, 2, none⟩) (Kd.R_far (p := ⟨gb169, 1, none⟩) (Kd.R_far (p := ⟨gb169, 0, none⟩) (Kd.R_types HO164.out BK169.out (by decide)) (fun _ hk => hk.2) (.bool t165)) (fun _ hk => hk.2) (.int .i64 t166)) (fun _ hk => hk.2) (.string t167)) (fun _ h_ => h_.1)))); (case side2 => exact (Kd.R_reads' HO164.out).2.1); rintro e w55 ⟨rfl, hb⟩; refine ⟨_, rfl, ?_⟩; have n0_ := Aside0.mk (Kd.R_below (by (with_reducible repeat (first | apply Kd.R_alloc | apply Kd.R_drewN | apply Kd.R_drew)); exact (Kd.R_mono (Kd.R_far (p := ⟨gb169, 2, none⟩) (Kd.R_far (p := ⟨gb169, 1, none⟩) (Kd.R_far (p := ⟨gb169, 0, none⟩) (Kd.R_types HO164.out BK169.out (by decide)) (fun _ hk => hk.2) (.bool t165)) (fun _ hk => hk.2) (.int .i64 t166)) (fun _ hk => hk.2) (.string t167)) (fun _ h_ => h_.1))) hb); have n1_ := Aside0.mk (blk_below (g := gb169) (o := .cells #[.bool t165, .int .i64 t166, .string t167] 23 (0, 0)) (by (with_reducible repeat (first | refine blk_drewN ?_ _ | refine blk_drew ?_ | refine blk_alloc ?_ _)); refine blk_put (cs := #[.bool t165, .int .i64 t166, .string (⟨#[]⟩ : ByteArray)]) ?_ 2 _ rfl; (with_reducible repeat (first | refine blk_drewN ?_ _ | refine blk_drew ?_ | refine blk_alloc ?_ _)); refine blk_put (cs := #[.bool t165, .int .i64 0, .string (⟨#[]⟩ : ByteArray)]) ?_ 1 _ rfl; (with_reducible repeat (first | refine blk_drewN ?_ _ | refine blk_drew ?_ | refine blk_alloc ?_ _)); refine blk_put (cs := #[.bool false, .int .i64 0, .string (⟨#[]⟩ : ByteArray)]) ?_ 0 _ rfl; (with_reducible repeat (first | refine blk_drewN ?_ _ | refine blk_drew ?_ | refine blk_alloc ?_ _)); exact BK169.out) hb); have n2_ := Aside0.mk (below_step (by repeat (first | (with_reducible first | exact HB.out | apply below_alloc | apply pw_below_drewN | apply below_drew1 | refine below_set ?_ GE169.out) | exact HB.out)) hb); clear HO164; clear BK169; clear HB; have HO164 := n0_; have BK169 := n1_; have HB := n2_; clear n0_ n1_ n2_; (try clear hb); (try clear hb2); (try clear hk); (try clear hi)))
    go_ret
    exact ⟨by first | rfl | (simp [errW_none, errW_some] <;> rfl) | (simp [*, errW_none, errW_some] <;> rfl), by repeat (first | (with_reducible first | exact HB.out | apply below_alloc | apply pw_below_drewN | apply below_drew1 | refine below_set ?_ GE169.out) | exact HB.out)⟩

-- FOREIGN: function 15 (api_Attr_15)

end Go.Proofs.YtgdieejhglhkcaaGreatDoor.MTup
