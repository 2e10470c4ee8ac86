import Derived.Test.YtgdieejhglhkcaaGreatDoorMTupx8
import Derived.Test.YtgdieejhglhkcaaGreatDoorTuJ4
import Derived.Test.YtgdieejhglhkcaaGreatDoorMTupx7
import Derived.Test.YtgdieejhglhkcaaGreatDoorMTupx4
namespace Go.Proofs.YtgdieejhglhkcaaGreatDoor.MTup
open Go.RowKit Go.Proofs.YtgdieejhglhkcaaGreatDoorW.PrintWords Go.Proofs.YtgdieejhglhkcaaGreatDoorW.PrintLast Go.Proofs.YtgdieejhglhkcaaGreatDoorW.PrintMore
attribute [local go_sem] max2_int min2_int max_two min_two max_three min_three max_four min_four   -- for this text's walks alone
set_option linter.unusedVariables false
set_option linter.unusedSimpArgs false
/-! ### broadsidelaw3_TupleNames: function 4 -/
mutual
def broadsidelaw3_TupleNames.l0 : Nat → Int → Int → Int → ByteArray → Int → Int → List Int → List Int → Option (Bool)
  | 0, _, _, _, _, _, _, _, _ => none
  | k + 1, x2, x3, x4, x11, x19, x20, x164000, x164001 => if x20 < x19 then (if x11.size + 1 ≤ 9223372036854775807 then (broadsidelaw3_TupleNames.l0 k x2 x3 x4 (x11 ++ (⟨#[113]⟩ : ByteArray)) x19 (wrap64 (x20 + 1)) x164000 x164001) else (none)) else ((broadsidekeep_Tuple_Tuple.f k x164000 x164001).bind fun t165 => ((tuple_Name.f k x11).bind fun t168 => (if (x11.size : Int) ≥ 1 then (if (t168 != (decide ((x11.size : Int) ≤ 12))) = true then (broadsidelaw3_TupleNames.j1 k x3 x4 t165 true) else ((some (([x2] : List Int) : List Int)).bind fun y169 => (if 1 + (strOfNums y169).size ≤ 9223372036854775807 then ((tuple_Name.f k ((⟨#[97]⟩ : ByteArray) ++ (strOfNums y169))).bind fun t172 => (if x2 ≥ 97 then (if (t172 != (decide (x2 ≤ 122))) = true then (broadsidelaw3_TupleNames.j1 k x3 x4 t165 true) else ((tuple_Right.f k t165).bind fun t173 => (broadsidelaw3_TupleNames.j1 k x3 x4 t165 (!t173)))) else (if (t172 != false) = true then (broadsidelaw3_TupleNames.j1 k x3 x4 t165 true) else ((tuple_Right.f k t165).bind fun t174 => (broadsidelaw3_TupleNames.j1 k x3 x4 t165 (!t174)))))) else (none)))) else (if (t168 != false) = true then (broadsidelaw3_TupleNames.j1 k x3 x4 t165 true) else ((some (([x2] : List Int) : List Int)).bind fun y175 => (if 1 + (strOfNums y175).size ≤ 9223372036854775807 then ((tuple_Name.f k ((⟨#[97]⟩ : ByteArray) ++ (strOfNums y175))).bind fun t178 => (if x2 ≥ 97 then (if (t178 != (decide (x2 ≤ 122))) = true then (broadsidelaw3_TupleNames.j1 k x3 x4 t165 true) else ((tuple_Right.f k t165).bind fun t179 => (broadsidelaw3_TupleNames.j1 k x3 x4 t165 (!t179)))) else (if (t178 != false) = true then (broadsidelaw3_TupleNames.j1 k x3 x4 t165 true) else ((tuple_Right.f k t165).bind fun t180 => (broadsidelaw3_TupleNames.j1 k x3 x4 t165 (!t180)))))) else (none)))))))
def broadsidelaw3_TupleNames.j1 : Nat → Int → Int → List (S25) → Bool → Option (Bool)
  | 0, _, _, _, _ => none
  | k + 1, x3, x4, x12, x56 => if x56 = true then (some false) else (if (x12.length : Int) < 2 then ((broadsidelaw3_TupleRuns.f k).bind fun t181 => (some t181)) else ((broadsidebook_Within.f x3 0 (wrap64 ((x12.length : Int) - 1))).bind fun t182 => ((broadsidebook_Within.f x4 0 (wrap64 ((x12.length : Int) - 1))).bind fun t183 => ((some (([] : List (S25)) : List (S25))).bind fun y184 => (if y184.length + x12.length < 2932031007402 then ((some (y184 ++ x12 : List (S25))).bind fun y187 => (if 0 ≤ t183 then (if t183 < (y187.length : Int) then (if 0 ≤ t182 then (if t182 < (y187.length : Int) then ((some (([] : List (S25)) : List (S25))).bind fun y194 => (if y194.length + x12.length < 2932031007402 then ((some (y194 ++ x12 : List (S25))).bind fun y197 => (if 0 ≤ (wrap64 ((x12.length : Int) - 1)) then (if (wrap64 ((x12.length : Int) - 1)) < (x12.length : Int) then (if y197.length < 2932031007402 then ((some (([] : List (S25)) : List (S25))).bind fun y204 => (if y204.length + x12.length < 2932031007402 then ((some (y204 ++ x12 : List (S25))).bind fun y207 => (if t182 < (y207.length : Int) then ((tuple_Right.f k ((y187.set (t182 : Int).toNat (⟨(rd_T25 y187 t183).f0, (⟨(rd_T25 y187 t183).f1.f0, (rd_T25 y187 t183).f1.f1, (rd_T25 y187 t183).f1.f2⟩ : S23)⟩ : S25)).set (t183 : Int).toNat (⟨(rd_T25 y187 t182).f0, (⟨(rd_T25 y187 t182).f1.f0, (rd_T25 y187 t182).f1.f1, (rd_T25 y187 t182).f1.f2⟩ : S23)⟩ : S25))).bind fun t211 => (if (t211 == (t182 == t183)) = true then ((tuple_Right.f k (y197 ++ [(⟨(rd_T25 x12 (wrap64 ((x12.length : Int) - 1))).f0, (⟨(rd_T25 x12 (wrap64 ((x12.length : Int) - 1))).f1.f0, (rd_T25 x12 (wrap64 ((x12.length : Int) - 1))).f1.f1, (rd_T25 x12 (wrap64 ((x12.length : Int) - 1))).f1.f2⟩ : S23)⟩ : S25)])).bind fun t212 => (if t212 = true then (some false) else ((tuple_Right.f k (y207.set (t182 : Int).toNat (⟨(rd_T25 y207 t182).f0, (⟨false, 1, (⟨#[120]⟩ : ByteArray)⟩ : S23)⟩ : S25))).bind fun t213 => (if t213 = true then (some false) else ((broadsidelaw3_TupleRuns.f k).bind fun t214 => (some t214)))))) else (some false))) else (none))) else (none))) else (none)) else (none)) else (none))) else (none))) else (none)) else (none)) else (none)) else (none))) else (none))))))
end
def broadsidelaw3_TupleNames.f (k : Nat) (l0_0 : List Int) (l0_1 : List Int) (a1 : Int) (a2 : Int) (a3 : Int) (a4 : Int) : Option (Bool) := (broadsidebook_Within.f a1 0 15).bind fun t164 => (broadsidelaw3_TupleNames.l0 k a2 a3 a4 (⟨#[]⟩ : ByteArray) t164 0 l0_0 l0_1)
theorem broadsidelaw3_TupleNames.mono_l : ∀ k, (∀ y0 y1 y2 y3 y4 y5 y6 y7, LeO (broadsidelaw3_TupleNames.l0 k y0 y1 y2 y3 y4 y5 y6 y7) (broadsidelaw3_TupleNames.l0 (k + 1) y0 y1 y2 y3 y4 y5 y6 y7)) ∧ (∀ y0 y1 y2 y3, LeO (broadsidelaw3_TupleNames.j1 k y0 y1 y2 y3) (broadsidelaw3_TupleNames.j1 (k + 1) y0 y1 y2 y3))
  | 0 => ⟨fun _ _ _ _ _ _ _ _ r h => by simp [broadsidelaw3_TupleNames.l0] at h, fun _ _ _ _ r h => by simp [broadsidelaw3_TupleNames.j1] at h⟩
  | k + 1 => by
    obtain ⟨ih0, ih1⟩ := broadsidelaw3_TupleNames.mono_l k
    refine ⟨?_, ?_⟩
    · intro y0 y1 y2 y3 y4 y5 y6 y7
      unfold broadsidelaw3_TupleNames.l0
      repeat' first
      | (with_reducible exact ih0 _ _ _ _ _ _ _ _)
      | (with_reducible exact ih1 _ _ _ _)
      | (with_reducible exact broadsidekeep_Tuple_Tuple.mono _ _ _)
      | (with_reducible exact broadsidelaw3_TupleRuns.mono _)
      | (with_reducible exact tuple_Name.mono _ _)
      | (with_reducible exact tuple_Right.mono _ _)
      | (with_reducible exact LeO.refl _)
      | (with_reducible exact LeO.none _)
      | (with_reducible refine LeO.ite ?_ ?_)
      | (with_reducible refine LeO.bind ?_ (fun _ => ?_))
      | exact ih0 _ _ _ _ _ _ _ _
      | exact ih1 _ _ _ _
      | exact broadsidekeep_Tuple_Tuple.mono _ _ _
      | exact broadsidelaw3_TupleRuns.mono _
      | exact tuple_Name.mono _ _
      | exact tuple_Right.mono _ _
      | exact LeO.none _
      | refine LeO.ite ?_ ?_
      | refine LeO.bind ?_ (fun _ => ?_)
    · intro y0 y1 y2 y3
      unfold broadsidelaw3_TupleNames.j1
      repeat' first
      | (with_reducible exact ih0 _ _ _ _ _ _ _ _)
      | (with_reducible exact ih1 _ _ _ _)
      | (with_reducible exact broadsidekeep_Tuple_Tuple.mono _ _ _)
      | (with_reducible exact broadsidelaw3_TupleRuns.mono _)
      | (with_reducible exact tuple_Name.mono _ _)
      | (with_reducible exact tuple_Right.mono _ _)
      | (with_reducible exact LeO.refl _)
      | (with_reducible exact LeO.none _)
      | (with_reducible refine LeO.ite ?_ ?_)
      | (with_reducible refine LeO.bind ?_ (fun _ => ?_))
      | exact ih0 _ _ _ _ _ _ _ _
      | exact ih1 _ _ _ _
      | exact broadsidekeep_Tuple_Tuple.mono _ _ _
      | exact broadsidelaw3_TupleRuns.mono _
      | exact tuple_Name.mono _ _
      | exact tuple_Right.mono _ _
      | exact LeO.none _
      | refine LeO.ite ?_ ?_
      | refine LeO.bind ?_ (fun _ => ?_)
theorem broadsidelaw3_TupleNames.mono : ∀ a0 a1 a2 a3 a4 a5 k, LeO (broadsidelaw3_TupleNames.f k a0 a1 a2 a3 a4 a5) (broadsidelaw3_TupleNames.f (k + 1) a0 a1 a2 a3 a4 a5) := by
  intro a0 a1 a2 a3 a4 a5 k
  obtain ⟨ih0, ih1⟩ := broadsidelaw3_TupleNames.mono_l k
  unfold broadsidelaw3_TupleNames.f
  repeat' first
      | (with_reducible exact ih0 _ _ _ _ _ _ _ _)
      | (with_reducible exact ih1 _ _ _ _)
      | (with_reducible exact broadsidekeep_Tuple_Tuple.mono _ _ _)
      | (with_reducible exact broadsidelaw3_TupleRuns.mono _)
      | (with_reducible exact tuple_Name.mono _ _)
      | (with_reducible exact tuple_Right.mono _ _)
      | (with_reducible exact LeO.refl _)
      | (with_reducible exact LeO.none _)
      | (with_reducible refine LeO.ite ?_ ?_)
      | (with_reducible refine LeO.bind ?_ (fun _ => ?_))
      | exact ih0 _ _ _ _ _ _ _ _
      | exact ih1 _ _ _ _
      | exact broadsidekeep_Tuple_Tuple.mono _ _ _
      | exact broadsidelaw3_TupleRuns.mono _
      | exact tuple_Name.mono _ _
      | exact tuple_Right.mono _ _
      | exact LeO.none _
      | refine LeO.ite ?_ ?_
      | refine LeO.bind ?_ (fun _ => ?_)
def broadsidelaw3_TupleNames.T13 : Bool × List (List Nat × List Nat) := (true, [([], []), ([], []), ([], []), ([], []), ([], []), ([], []), ([4, 5], [4, 5]), ([6], [6]), ([], []), ([], []), ([8, 9], [8, 9]), ([10], [10]), ([0, 1, 0, 1, 4, 5, 6, 7, 11], [0, 1]), ([12, 7, 0, 1, 4, 5, 6, 7, 11], [7, 12]), ([2, 3, 0, 1, 2, 3, 4, 5, 6, 7, 8, 9, 10, 11, 12, 13], [2, 3]), ([14, 11, 13, 0, 1, 2, 3, 4, 5, 6, 7, 8, 9, 10, 11, 12, 13], [11, 14])])
def broadsidelaw3_TupleNames.B13 : List Nat := [0, 0, 0, 0, 0, 0, 48, 112, 0, 0, 768, 1792, 4083, 8179, 16383, 32767]
theorem broadsidelaw3_TupleNames.tab13 : rtab .any (opsOf Tryz.f4 13) = broadsidelaw3_TupleNames.T13 := by kernel_rfl
theorem broadsidelaw3_TupleNames.bits13 : waitsOk broadsidelaw3_TupleNames.T13.2 broadsidelaw3_TupleNames.B13 = true := by kernel_rfl
set_option maxHeartbeats 8000000 in
set_option maxRecDepth 100000 in
theorem broadsidelaw3_TupleNames.calls (k : Nat) (A0_0 : Option Addr) (c0_0 : Nat) (l0_0 : List Int) (A0_1 : Option Addr) (c0_1 : Nat) (l0_1 : List Int) (a1 : Int) (a2 : Int) (a3 : Int) (a4 : Int) (r : Bool) (w : World) (HTAB : Aside0 (Val.Tab w)) (HRT : Aside0 (r = true)) (hr0_0 : Kd.C (Kd.int .i64) w A0_0 l0_0.length l0_0) (hc0_0 : l0_0.length ≤ c0_0) (hr0_1 : Kd.C (Kd.int .i64) w A0_1 l0_1.length l0_1) (hc0_1 : l0_1.length ≤ c0_1) (h : broadsidelaw3_TupleNames.f k l0_0 l0_1 a1 a2 a3 a4 = some r) :
    Calls Tryz.prog 4 #[.agg #[.slice A0_0 l0_0.length c0_0, .slice A0_1 l0_1.length c0_1], .int .i64 a1, .int .u8 a2, .int .i64 a3, .int .i64 a4] w fun e w' => e = .returned (.bool r) ∧ Below w.heap.size w w' := by
  have hu35 := Tryz.underlying35
  have hu25 := Tryz.underlying25
  have hu23 := Tryz.underlying23
  have HR0_0 := Aside0.mk hr0_0
  have HC0_0 := Aside0.mk hc0_0
  clear hr0_0 hc0_0
  have HR0_1 := Aside0.mk hr0_1
  have HC0_1 := Aside0.mk hc0_1
  clear hr0_1 hc0_1
  have HB := Aside0.mk (Below.refl w.heap.size w)
  have H : ((broadsidebook_Within.f a1 0 15).bind fun t164 => (broadsidelaw3_TupleNames.l0 k a2 a3 a4 (⟨#[]⟩ : ByteArray) t164 0 l0_0 l0_1)) = some r := h
  clear h
  replace H := Option.bind_eq_some_iff.mp H
  obtain ⟨t164, A60, H⟩ := H
  replace H : (broadsidelaw3_TupleNames.l0 k a2 a3 a4 (⟨#[]⟩ : ByteArray) t164 0 l0_0 l0_1) = some r := H
  have A6 := Aside0.mk A60
  clear A60
  have H' := Aside0.mk H
  clear H
  go_enter Tryz.func4, Tryz.ntmps4
  go_wp2_with (first | ((with_reducible refine gate_dst (N := 5) rfl ?_); (try (refine gate_guard (by rfl) ?_; dsimp only)); refine box_event ?hg (N := 5) ?hd (cs := #[.slice A0_0 l0_0.length c0_0, .slice A0_1 l0_1.length c0_1]) (t := 35) ?hr ?_; (case hd => rfl); (case hg => rfl); (case hr => first | (go_simp; done) | (go_simp; rfl)); intro gb163 hg w7 hbox hb; have n0_ := Aside0.mk (below_step (by repeat (first | (with_reducible first | exact HB.out | apply below_alloc | apply pw_below_drewN | apply below_drew1) | exact HB.out)) hb); have n1_ := Aside0.mk (hbox); have n2_ := Aside0.mk ((by rw [hg]; exact (below_size (by repeat (first | (with_reducible first | exact HB.out | apply below_alloc | apply pw_below_drewN | apply below_drew1) | exact HB.out))) : w.heap.size ≤ gb163)); have n3_ := Aside0.mk ((by rw [hg]; exact (below_size (by repeat (first | (with_reducible first | exact HB.out | apply below_alloc | apply pw_below_drewN | apply below_drew1) | exact HB.out))) : w.heap.size ≤ gb163)); clear HB; have HB := n0_; have BK163 := n1_; have GW163 := n2_; have GE163 := n3_; clear n0_ n1_ n2_ n3_; clear hb hbox hg) | ((with_reducible refine gate_callee (f := 12) rfl ?_); refine goesL_ (some 19) rfl rfl Tryz.func12 (by kernel_rfl) rfl #[.int .i64 a1, .int .i64 0, .int .i64 15] rfl (by (try simp only [List.map_toArray, List.map_cons, List.map_nil]); first | done | rfl | (simp only [List.length_drop, List.length_take]; rfl)) ?_; (with_reducible refine (broadsidebook_Within.calls a1 0 15 t164 _ A6.out).mono ?_); rintro e w' ⟨rfl, ⟨nd, rfl⟩⟩; refine ⟨_, rfl, ?_⟩))
  go_loopg [11, 20] k (fun kq v11 v20 w' => ∃ (x11_1 : ByteArray) (x20_1 : Int), v11 = .string x11_1 ∧ v20 = .int .i64 x20_1 ∧ Aside0 (broadsidelaw3_TupleNames.l0 kq a2 a3 a4 x11_1 t164 x20_1 l0_0 l0_1 = some r) ∧ Aside0 (kq ≤ k) ∧ Aside0 (w'.heap[gb163]? = some (.cells #[(.slice A0_0 l0_0.length c0_0), (.slice A0_1 l0_1.length c0_1)] 35 (0, 0))) ∧ Aside0 (Below w.heap.size w w'))
  case atStart => exact ⟨((⟨#[]⟩ : ByteArray)), (0), (by first | rfl | (simp; done) | (simp [*]; done)), (by first | rfl | (simp; done) | (simp [*]; done)), H', ⟨Nat.le_refl _⟩, ⟨by (with_reducible repeat (first | refine blk_drewN ?_ _ | refine blk_drew ?_ | refine blk_alloc ?_ _)); exact BK163.out⟩, ⟨by repeat (first | (with_reducible first | exact HB.out | apply below_alloc | apply pw_below_drewN | apply below_drew1 | refine below_set ?_ GE163.out) | exact HB.out)⟩⟩
  case round =>
    clear H'
    try clear c1
    try clear p2
    try clear c4
    obtain ⟨x11_1, x20_1, rfl, rfl, HA, HK1, BK163, HB⟩ := hrel
    cases gk with
    | zero => exact absurd HA.out (by simp [broadsidelaw3_TupleNames.l0])
    | succ k1 =>
      have H := HA.out
      clear HA
      simp only [broadsidelaw3_TupleNames.l0] at H
      by_cases c8 : x20_1 < t164
      · rw [if_pos c8] at H
        have c8b0 : decide (x20_1 < t164) = true := decide_eq_true c8
        clear c8
        by_cases c9 : x11_1.size + 1 ≤ 9223372036854775807
        · rw [if_pos c9] at H
          have c9b0 := eq_true c9
          have c9b1 : decide (x11_1.size + 1 ≤ 9223372036854775807) = true := decide_eq_true c9
          try have c9b2 : (9223372036854775807 < x11_1.size + 1) = False := eq_false (Nat.not_lt.2 c9)
          have H' := Aside0.mk H
          clear H
          go_wp2
          go_roundg k1
          case measure => have := HK1.out; omega
          case rel => exact ⟨(x11_1 ++ (⟨#[113]⟩ : ByteArray)), (wrap64 (x20_1 + 1)), (by first | rfl | (simp; done) | (simp [*]; done)), (by first | rfl | (simp; done) | (simp [*]; done)), H', ⟨by have := HK1.out; omega⟩, ⟨by (with_reducible repeat (first | refine blk_drewN ?_ _ | refine blk_drew ?_ | refine blk_alloc ?_ _)); exact BK163.out⟩, ⟨by repeat (first | (with_reducible first | exact HB.out | apply below_alloc | apply pw_below_drewN | apply below_drew1 | refine below_set ?_ GE163.out) | exact HB.out)⟩⟩
        · rw [if_neg c9] at H
          exact absurd H (by simp)
      · rw [if_neg c8] at H
        have c8b0 : decide (x20_1 < t164) = false := decide_eq_false c8
        clear c8
        replace H := Option.bind_eq_some_iff.mp H
        obtain ⟨t165, A100, H⟩ := H
        replace H : ((tuple_Name.f k1 x11_1).bind fun t168 => (if (x11_1.size : Int) ≥ 1 then (if (t168 != (decide ((x11_1.size : Int) ≤ 12))) = true then (broadsidelaw3_TupleNames.j1 k1 a3 a4 t165 true) else ((some (([a2] : List Int) : List Int)).bind fun y169 => (if 1 + (strOfNums y169).size ≤ 9223372036854775807 then ((tuple_Name.f k1 ((⟨#[97]⟩ : ByteArray) ++ (strOfNums y169))).bind fun t172 => (if a2 ≥ 97 then (if (t172 != (decide (a2 ≤ 122))) = true then (broadsidelaw3_TupleNames.j1 k1 a3 a4 t165 true) else ((tuple_Right.f k1 t165).bind fun t173 => (broadsidelaw3_TupleNames.j1 k1 a3 a4 t165 (!t173)))) else (if (t172 != false) = true then (broadsidelaw3_TupleNames.j1 k1 a3 a4 t165 true) else ((tuple_Right.f k1 t165).bind fun t174 => (broadsidelaw3_TupleNames.j1 k1 a3 a4 t165 (!t174)))))) else (none)))) else (if (t168 != false) = true then (broadsidelaw3_TupleNames.j1 k1 a3 a4 t165 true) else ((some (([a2] : List Int) : List Int)).bind fun y175 => (if 1 + (strOfNums y175).size ≤ 9223372036854775807 then ((tuple_Name.f k1 ((⟨#[97]⟩ : ByteArray) ++ (strOfNums y175))).bind fun t178 => (if a2 ≥ 97 then (if (t178 != (decide (a2 ≤ 122))) = true then (broadsidelaw3_TupleNames.j1 k1 a3 a4 t165 true) else ((tuple_Right.f k1 t165).bind fun t179 => (broadsidelaw3_TupleNames.j1 k1 a3 a4 t165 (!t179)))) else (if (t178 != false) = true then (broadsidelaw3_TupleNames.j1 k1 a3 a4 t165 true) else ((tuple_Right.f k1 t165).bind fun t180 => (broadsidelaw3_TupleNames.j1 k1 a3 a4 t165 (!t180)))))) else (none)))))) = some r := H
        have A10 := Aside0.mk A100
        clear A100
        have HC11 := Aside0.mk H
        clear H
        have hcz12_0 : wr.cell? ⟨gb163, 0, none⟩ = some (.slice A0_0 l0_0.length c0_0) := (blk_cell BK163.out 0).trans rfl
        have hcz12_1 : wr.cell? ⟨gb163, 1, none⟩ = some (.slice A0_1 l0_1.length c0_1) := (blk_cell BK163.out 1).trans rfl
        have hfz12_0 := blk_frozen BK163.out 0
        have hfz12_1 := blk_frozen BK163.out 1
        go_upto_region 7 with (first | ((with_reducible refine gate_callee (f := 13) rfl ?_); refine goesL_ (some 26) rfl rfl Tryz.func13 (by kernel_rfl) rfl #[.agg #[.slice A0_0 l0_0.length c0_0, .slice A0_1 l0_1.length c0_1]] rfl (by (try simp only [List.map_toArray, List.map_cons, List.map_nil]); first | done | rfl | (simp only [List.length_drop, List.length_take]; rfl)) ?_; (with_reducible refine (broadsidekeep_Tuple_Tuple.calls k1 _ _ l0_0 _ _ l0_1 t165 _ ?side1 ?side2 ?side3 ?side4 A10.out).mono ?_); (case side1 => repeat (first | exact (Kd.C_below HR0_0.out HB.out) | (with_reducible refine Kd.C_alloc ?_ _) | (with_reducible refine Kd.C_drewN ?_ _) | (with_reducible refine Kd.C_drew ?_))); (case side2 => exact HC0_0.out); (case side3 => repeat (first | exact (Kd.C_below HR0_1.out HB.out) | (with_reducible refine Kd.C_alloc ?_ _) | (with_reducible refine Kd.C_drewN ?_ _) | (with_reducible refine Kd.C_drew ?_))); (case side4 => exact HC0_1.out); rintro e w13 ⟨v166, rfl, ho0, hb⟩; refine ⟨_, rfl, ?_⟩; have n0_ := Aside0.mk (Kd.R_lower ho0 (below_size (by repeat (first | (with_reducible first | exact HB.out | apply below_alloc | apply pw_below_drewN | apply below_drew1 | refine below_set ?_ GE163.out) | exact HB.out)))); have n1_ := Aside0.mk (blk_below (g := gb163) (o := .cells #[.slice A0_0 l0_0.length c0_0, .slice A0_1 l0_1.length c0_1] 35 (0, 0)) (by (with_reducible repeat (first | refine blk_drewN ?_ _ | refine blk_drew ?_ | refine blk_alloc ?_ _)); exact BK163.out) hb); have n2_ := Aside0.mk (below_step (by repeat (first | (with_reducible first | exact HB.out | apply below_alloc | apply pw_below_drewN | apply below_drew1 | refine below_set ?_ GE163.out) | exact HB.out)) hb); clear BK163; clear HB; have HO167 := n0_; have BK163 := n1_; have HB := n2_; clear n0_ n1_ n2_; (try clear hb); (try clear hb2); (try clear hk); (try clear hi); (try clear ho0)))
        (try simp only [Act.put, List.setIfInBounds_toArray, List.set_cons_zero, List.set_cons_succ])
        go_cut [56] (fun v56 wc => ∃ (kq : Nat) (x56_10 : Bool), v56 = .bool x56_10 ∧ Aside0 (broadsidelaw3_TupleNames.j1 kq a3 a4 t165 x56_10 = some r) ∧ Aside0 (kq ≤ k1) ∧ Aside0 (Kd.R k25 25 wc w.heap.size (fun _ => True) v166 t165) ∧ Aside0 (wc.heap[gb163]? = some (.cells #[(.slice A0_0 l0_0.length c0_0), (.slice A0_1 l0_1.length c0_1)] 35 (0, 0))) ∧ Aside0 (Below w.heap.size w wc))
        case first =>
          have H := HC11.out
          clear HC11
          replace H := Option.bind_eq_some_iff.mp H
          obtain ⟨t168, A140, H⟩ := H
          replace H : (if (x11_1.size : Int) ≥ 1 then (if (t168 != (decide ((x11_1.size : Int) ≤ 12))) = true then (broadsidelaw3_TupleNames.j1 k1 a3 a4 t165 true) else ((some (([a2] : List Int) : List Int)).bind fun y169 => (if 1 + (strOfNums y169).size ≤ 9223372036854775807 then ((tuple_Name.f k1 ((⟨#[97]⟩ : ByteArray) ++ (strOfNums y169))).bind fun t172 => (if a2 ≥ 97 then (if (t172 != (decide (a2 ≤ 122))) = true then (broadsidelaw3_TupleNames.j1 k1 a3 a4 t165 true) else ((tuple_Right.f k1 t165).bind fun t173 => (broadsidelaw3_TupleNames.j1 k1 a3 a4 t165 (!t173)))) else (if (t172 != false) = true then (broadsidelaw3_TupleNames.j1 k1 a3 a4 t165 true) else ((tuple_Right.f k1 t165).bind fun t174 => (broadsidelaw3_TupleNames.j1 k1 a3 a4 t165 (!t174)))))) else (none)))) else (if (t168 != false) = true then (broadsidelaw3_TupleNames.j1 k1 a3 a4 t165 true) else ((some (([a2] : List Int) : List Int)).bind fun y175 => (if 1 + (strOfNums y175).size ≤ 9223372036854775807 then ((tuple_Name.f k1 ((⟨#[97]⟩ : ByteArray) ++ (strOfNums y175))).bind fun t178 => (if a2 ≥ 97 then (if (t178 != (decide (a2 ≤ 122))) = true then (broadsidelaw3_TupleNames.j1 k1 a3 a4 t165 true) else ((tuple_Right.f k1 t165).bind fun t179 => (broadsidelaw3_TupleNames.j1 k1 a3 a4 t165 (!t179)))) else (if (t178 != false) = true then (broadsidelaw3_TupleNames.j1 k1 a3 a4 t165 true) else ((tuple_Right.f k1 t165).bind fun t180 => (broadsidelaw3_TupleNames.j1 k1 a3 a4 t165 (!t180)))))) else (none))))) = some r := H
          have A14 := Aside0.mk A140
          clear A140
          by_cases c15 : (x11_1.size : Int) ≥ 1
          · rw [if_pos c15] at H
            have c15b0 : decide (1 ≤ (x11_1.size : Int)) = true := decide_eq_true c15
            have c15b1 : decide (1 ≤ x11_1.size) = true := decide_eq_true (by omega)
            clear c15
            (first | rw [c15b0] | (simp only [i64_w, i32_w]; rw [c15b0]) | skip)
            by_cases c16 : (t168 != (decide ((x11_1.size : Int) ≤ 12))) = true
            · rw [if_pos c16] at H
              have c16b0 : (t168 != (decide ((x11_1.size : Int) ≤ 12))) = true := c16
              (try (have c16b1 : decide (t168 = (decide ((x11_1.size : Int) ≤ 12))) = false := by simpa using c16))
              (try (have c16b2 : (t168 == (decide ((x11_1.size : Int) ≤ 12))) = false := by simpa using c16))
              (try (have c16b3 : ¬ (t168 = (decide ((x11_1.size : Int) ≤ 12))) := by simpa using c16))
              clear c16
              have H' := Aside0.mk H
              clear H
              go_wp2_with (first | ((with_reducible refine gate_callee (f := 14) rfl ?_); refine goesL_ (some 28) rfl rfl Tryz.func14 (by kernel_rfl) rfl #[.string x11_1] rfl (by (try simp only [List.map_toArray, List.map_cons, List.map_nil]); first | done | rfl | (simp only [List.length_drop, List.length_take]; rfl)) ?_; (with_reducible refine (tuple_Name.calls k1 x11_1 t168 _ A14.out).mono ?_); rintro e w' ⟨rfl, ⟨nd, rfl⟩⟩; refine ⟨_, rfl, ?_⟩))
              go_meet
              case rel => exact ⟨_, (true), (by first | rfl | (simp; done) | (simp [*]; done)), H', ⟨by have := HK1.out; first | omega | exact Nat.le_refl _⟩, ⟨by (with_reducible repeat (first | apply Kd.R_alloc | apply Kd.R_drewN | apply Kd.R_drew)); exact HO167.out⟩, ⟨by (with_reducible repeat (first | refine blk_drewN ?_ _ | refine blk_drew ?_ | refine blk_alloc ?_ _)); exact BK163.out⟩, ⟨by repeat (first | (with_reducible first | exact HB.out | apply below_alloc | apply pw_below_drewN | apply below_drew1 | refine below_set ?_ GE163.out) | exact HB.out)⟩⟩
            · rw [if_neg c16] at H
              have c16b0 : (t168 != (decide ((x11_1.size : Int) ≤ 12))) = false := by simpa using c16
              (try (have c16b1 : decide (t168 = (decide ((x11_1.size : Int) ≤ 12))) = true := by simpa using c16))
              (try (have c16b2 : (t168 == (decide ((x11_1.size : Int) ≤ 12))) = true := by simpa using c16))
              clear c16
              obtain ⟨y169, hy169⟩ : ∃ y_ : List Int, y_ = (([a2] : List Int)) := ⟨_, rfl⟩
              replace H : (if 1 + (strOfNums y169).size ≤ 9223372036854775807 then ((tuple_Name.f k1 ((⟨#[97]⟩ : ByteArray) ++ (strOfNums y169))).bind fun t172 => (if a2 ≥ 97 then (if (t172 != (decide (a2 ≤ 122))) = true then (broadsidelaw3_TupleNames.j1 k1 a3 a4 t165 true) else ((tuple_Right.f k1 t165).bind fun t173 => (broadsidelaw3_TupleNames.j1 k1 a3 a4 t165 (!t173)))) else (if (t172 != false) = true then (broadsidelaw3_TupleNames.j1 k1 a3 a4 t165 true) else ((tuple_Right.f k1 t165).bind fun t174 => (broadsidelaw3_TupleNames.j1 k1 a3 a4 t165 (!t174)))))) else (none)) = some r := by first | (rw [hy169]; with_reducible exact H) | (have H2_ := (Option.bind_some _ _).symm.trans H; rw [hy169]; with_reducible exact H2_) | (have H2_ := (Option.bind_some _ _).symm.trans H; with_reducible exact H2_) | with_reducible exact H | (rw [hy169]; exact H) | exact H
              have Ny169 := Aside0.mk hy169
              clear hy169
              by_cases c17 : 1 + (strOfNums y169).size ≤ 9223372036854775807
              · rw [if_pos c17] at H
                have c17b0 := eq_true c17
                have c17b1 : decide (1 + (strOfNums y169).size ≤ 9223372036854775807) = true := decide_eq_true c17
                try have c17b2 : (9223372036854775807 < 1 + (strOfNums y169).size) = False := eq_false (Nat.not_lt.2 c17)
                replace H := Option.bind_eq_some_iff.mp H
                obtain ⟨t172, A180, H⟩ := H
                replace H : (if a2 ≥ 97 then (if (t172 != (decide (a2 ≤ 122))) = true then (broadsidelaw3_TupleNames.j1 k1 a3 a4 t165 true) else ((tuple_Right.f k1 t165).bind fun t173 => (broadsidelaw3_TupleNames.j1 k1 a3 a4 t165 (!t173)))) else (if (t172 != false) = true then (broadsidelaw3_TupleNames.j1 k1 a3 a4 t165 true) else ((tuple_Right.f k1 t165).bind fun t174 => (broadsidelaw3_TupleNames.j1 k1 a3 a4 t165 (!t174))))) = some r := H
                have A18 := Aside0.mk A180
                clear A180
                by_cases c19 : a2 ≥ 97
                · rw [if_pos c19] at H
                  have c19b0 : decide (97 ≤ a2) = true := decide_eq_true c19
                  clear c19
                  by_cases c20 : (t172 != (decide (a2 ≤ 122))) = true
                  · rw [if_pos c20] at H
                    have c20b0 : (t172 != (decide (a2 ≤ 122))) = true := c20
                    (try (have c20b1 : decide (t172 = (decide (a2 ≤ 122))) = false := by simpa using c20))
                    (try (have c20b2 : (t172 == (decide (a2 ≤ 122))) = false := by simpa using c20))
                    (try (have c20b3 : ¬ (t172 = (decide (a2 ≤ 122))) := by simpa using c20))
                    clear c20
                    have H' := Aside0.mk H
                    clear H
                    go_wp2_with (first | ((with_reducible refine gate_callee (f := 14) rfl ?_); refine goesL_ (some 28) rfl rfl Tryz.func14 (by kernel_rfl) rfl #[.string x11_1] rfl (by (try simp only [List.map_toArray, List.map_cons, List.map_nil]); first | done | rfl | (simp only [List.length_drop, List.length_take]; rfl)) ?_; (with_reducible refine (tuple_Name.calls k1 x11_1 t168 _ A14.out).mono ?_); rintro e w' ⟨rfl, ⟨nd, rfl⟩⟩; refine ⟨_, rfl, ?_⟩) | ((with_reducible refine gate_dst (N := 40) rfl ?_); (try (refine gate_guard (by rfl) ?_; dsimp only)); refine Kd.R_lit (Kd.int .u8) _ 5 ?hg (N := 40) ?hd (xs := ([a2] : List Int)) (inner := [.int .u8 a2]) (ok := fun _ => True) (okp := fun _ => True) ?hr ?hp (fun _ hk => hk) trivial (Below.refl _ _) (Nat.le_refl _) (by simp) ?_; (case hd => rfl); (case hg => rfl); (case hr => first | (go_simp; done) | (go_simp; rfl)); (case hp => exact (Reps.one (show Kd.M (Kd.int .u8) _ _ _ a2 [.int .u8 a2] from rfl) (Reps.none _ _))); intro v170 w21 ho22 hb hg_ hnew_; clear hg_ hnew_; (first | rw [← Ny169.out] at ho22 | (simp only [Int.reduceToNat] at ho22; rw [← Ny169.out] at ho22)); have n0_ := Aside0.mk (Kd.R_below (by (with_reducible repeat (first | apply Kd.R_alloc | apply Kd.R_drewN | apply Kd.R_drew)); exact HO167.out) hb); have n1_ := Aside0.mk (Kd.R_lower ho22 (below_size (by repeat (first | (with_reducible first | exact HB.out | apply below_alloc | apply pw_below_drewN | apply below_drew1 | refine below_set ?_ GE163.out) | exact HB.out)))); have n2_ := Aside0.mk (blk_below (g := gb163) (o := .cells #[.slice A0_0 l0_0.length c0_0, .slice A0_1 l0_1.length c0_1] 35 (0, 0)) (by (with_reducible repeat (first | refine blk_drewN ?_ _ | refine blk_drew ?_ | refine blk_alloc ?_ _)); exact BK163.out) hb); have n3_ := Aside0.mk (below_step (by repeat (first | (with_reducible first | exact HB.out | apply below_alloc | apply pw_below_drewN | apply below_drew1 | refine below_set ?_ GE163.out) | exact HB.out)) hb); clear HO167; clear BK163; clear HB; have HO167 := n0_; have HO171 := n1_; have BK163 := n2_; have HB := n3_; clear n0_ n1_ n2_ n3_; clear hb ho22; have hcv23 := own_string (P := Tryz.prog) Tryz.underlying39 Tryz.underlying5 Tryz.underlying9 (Kd.own_of_R HO171.out)) | (go_at_call 14; (with_reducible refine (tuple_Name.calls k1 ((⟨#[97]⟩ : ByteArray) ++ (strOfNums y169)) t172 _ A18.out).mono ?_); rintro e w' ⟨rfl, ⟨nd, rfl⟩⟩))
                    go_meet
                    case rel => exact ⟨_, (true), (by first | rfl | (simp; done) | (simp [*]; done)), H', ⟨by have := HK1.out; first | omega | exact Nat.le_refl _⟩, ⟨by (with_reducible repeat (first | apply Kd.R_alloc | apply Kd.R_drewN | apply Kd.R_drew)); exact HO167.out⟩, ⟨by (with_reducible repeat (first | refine blk_drewN ?_ _ | refine blk_drew ?_ | refine blk_alloc ?_ _)); exact BK163.out⟩, ⟨by repeat (first | (with_reducible first | exact HB.out | apply below_alloc | apply pw_below_drewN | apply below_drew1 | refine below_set ?_ GE163.out) | exact HB.out)⟩⟩
                  · rw [if_neg c20] at H
                    have c20b0 : (t172 != (decide (a2 ≤ 122))) = false := by simpa using c20
                    (try (have c20b1 : decide (t172 = (decide (a2 ≤ 122))) = true := by simpa using c20))
                    (try (have c20b2 : (t172 == (decide (a2 ≤ 122))) = true := by simpa using c20))
                    clear c20
                    replace H := Option.bind_eq_some_iff.mp H
                    obtain ⟨t173, A240, H⟩ := H
                    replace H : (broadsidelaw3_TupleNames.j1 k1 a3 a4 t165 (!t173)) = some r := H
                    have A24 := Aside0.mk A240
                    clear A240
                    have H' := Aside0.mk H
                    clear H
                    go_wp2_with (first | ((with_reducible refine gate_callee (f := 14) rfl ?_); refine goesL_ (some 28) rfl rfl Tryz.func14 (by kernel_rfl) rfl #[.string x11_1] rfl (by (try simp only [List.map_toArray, List.map_cons, List.map_nil]); first | done | rfl | (simp only [List.length_drop, List.length_take]; rfl)) ?_; (with_reducible refine (tuple_Name.calls k1 x11_1 t168 _ A14.out).mono ?_); rintro e w' ⟨rfl, ⟨nd, rfl⟩⟩; refine ⟨_, rfl, ?_⟩) | ((with_reducible refine gate_dst (N := 40) rfl ?_); (try (refine gate_guard (by rfl) ?_; dsimp only)); refine Kd.R_lit (Kd.int .u8) _ 5 ?hg (N := 40) ?hd (xs := ([a2] : List Int)) (inner := [.int .u8 a2]) (ok := fun _ => True) (okp := fun _ => True) ?hr ?hp (fun _ hk => hk) trivial (Below.refl _ _) (Nat.le_refl _) (by simp) ?_; (case hd => rfl); (case hg => rfl); (case hr => first | (go_simp; done) | (go_simp; rfl)); (case hp => exact (Reps.one (show Kd.M (Kd.int .u8) _ _ _ a2 [.int .u8 a2] from rfl) (Reps.none _ _))); intro v170 w25 ho26 hb hg_ hnew_; clear hg_ hnew_; (first | rw [← Ny169.out] at ho26 | (simp only [Int.reduceToNat] at ho26; rw [← Ny169.out] at ho26)); have n0_ := Aside0.mk (Kd.R_below (by (with_reducible repeat (first | apply Kd.R_alloc | apply Kd.R_drewN | apply Kd.R_drew)); exact HO167.out) hb); have n1_ := Aside0.mk (Kd.R_lower ho26 (below_size (by repeat (first | (with_reducible first | exact HB.out | apply below_alloc | apply pw_below_drewN | apply below_drew1 | refine below_set ?_ GE163.out) | exact HB.out)))); have n2_ := Aside0.mk (blk_below (g := gb163) (o := .cells #[.slice A0_0 l0_0.length c0_0, .slice A0_1 l0_1.length c0_1] 35 (0, 0)) (by (with_reducible repeat (first | refine blk_drewN ?_ _ | refine blk_drew ?_ | refine blk_alloc ?_ _)); exact BK163.out) hb); have n3_ := Aside0.mk (below_step (by repeat (first | (with_reducible first | exact HB.out | apply below_alloc | apply pw_below_drewN | apply below_drew1 | refine below_set ?_ GE163.out) | exact HB.out)) hb); clear HO167; clear BK163; clear HB; have HO167 := n0_; have HO171 := n1_; have BK163 := n2_; have HB := n3_; clear n0_ n1_ n2_ n3_; clear hb ho26; have hcv27 := own_string (P := Tryz.prog) Tryz.underlying39 Tryz.underlying5 Tryz.underlying9 (Kd.own_of_R HO171.out)) | (go_at_call 14; (with_reducible refine (tuple_Name.calls k1 ((⟨#[97]⟩ : ByteArray) ++ (strOfNums y169)) t172 _ A18.out).mono ?_); rintro e w' ⟨rfl, ⟨nd, rfl⟩⟩; obtain ⟨Ao28, co28, eo28⟩ := Kd.R_slice HO167.out; subst eo28) | (go_at_call 11; (with_reducible refine (tuple_Right.calls k1 _ _ t165 t173 _ ?side1 ?side2 A24.out).mono ?_); (case side1 => repeat (first | exact (Kd.R_reads' HO167.out).2.2 | (with_reducible refine Kd.C_alloc ?_ _) | (with_reducible refine Kd.C_drewN ?_ _) | (with_reducible refine Kd.C_drew ?_))); (case side2 => exact (Kd.R_reads' HO167.out).2.1); rintro e w29 ⟨rfl, hb⟩; have n0_ := Aside0.mk (Kd.R_below (by (with_reducible repeat (first | apply Kd.R_alloc | apply Kd.R_drewN | apply Kd.R_drew)); exact HO167.out) hb); have n1_ := Aside0.mk (Kd.R_below (by (with_reducible repeat (first | apply Kd.R_alloc | apply Kd.R_drewN | apply Kd.R_drew)); exact HO171.out) hb); have n2_ := Aside0.mk (blk_below (g := gb163) (o := .cells #[.slice A0_0 l0_0.length c0_0, .slice A0_1 l0_1.length c0_1] 35 (0, 0)) (by (with_reducible repeat (first | refine blk_drewN ?_ _ | refine blk_drew ?_ | refine blk_alloc ?_ _)); exact BK163.out) hb); have n3_ := Aside0.mk (below_step (by repeat (first | (with_reducible first | exact HB.out | apply below_alloc | apply pw_below_drewN | apply below_drew1 | refine below_set ?_ GE163.out) | exact HB.out)) hb); clear HO167; clear HO171; clear BK163; clear HB; have HO167 := n0_; have HO171 := n1_; have BK163 := n2_; have HB := n3_; clear n0_ n1_ n2_ n3_; (try clear hb); (try clear hb2); (try clear hk); (try clear hi)))
                    go_meet
                    case rel => exact ⟨_, (!t173), (by first | rfl | (simp; done) | (simp [*]; done)), H', ⟨by have := HK1.out; first | omega | exact Nat.le_refl _⟩, ⟨by (with_reducible repeat (first | apply Kd.R_alloc | apply Kd.R_drewN | apply Kd.R_drew)); exact HO167.out⟩, ⟨by (with_reducible repeat (first | refine blk_drewN ?_ _ | refine blk_drew ?_ | refine blk_alloc ?_ _)); exact BK163.out⟩, ⟨by repeat (first | (with_reducible first | exact HB.out | apply below_alloc | apply pw_below_drewN | apply below_drew1 | refine below_set ?_ GE163.out) | exact HB.out)⟩⟩
                · rw [if_neg c19] at H
                  have c19b0 : decide (97 ≤ a2) = false := decide_eq_false c19
                  clear c19
                  by_cases c30 : (t172 != false) = true
                  · rw [if_pos c30] at H
                    have c30b0 : (t172 != false) = true := c30
                    (try (have c30b1 : decide (t172 = false) = false := by simpa using c30))
                    (try (have c30b2 : (t172 == false) = false := by simpa using c30))
                    (try (have c30b3 : ¬ (t172 = false) := by simpa using c30))
                    clear c30
                    have H' := Aside0.mk H
                    clear H
                    go_wp2_with (first | ((with_reducible refine gate_callee (f := 14) rfl ?_); refine goesL_ (some 28) rfl rfl Tryz.func14 (by kernel_rfl) rfl #[.string x11_1] rfl (by (try simp only [List.map_toArray, List.map_cons, List.map_nil]); first | done | rfl | (simp only [List.length_drop, List.length_take]; rfl)) ?_; (with_reducible refine (tuple_Name.calls k1 x11_1 t168 _ A14.out).mono ?_); rintro e w' ⟨rfl, ⟨nd, rfl⟩⟩; refine ⟨_, rfl, ?_⟩) | ((with_reducible refine gate_dst (N := 40) rfl ?_); (try (refine gate_guard (by rfl) ?_; dsimp only)); refine Kd.R_lit (Kd.int .u8) _ 5 ?hg (N := 40) ?hd (xs := ([a2] : List Int)) (inner := [.int .u8 a2]) (ok := fun _ => True) (okp := fun _ => True) ?hr ?hp (fun _ hk => hk) trivial (Below.refl _ _) (Nat.le_refl _) (by simp) ?_; (case hd => rfl); (case hg => rfl); (case hr => first | (go_simp; done) | (go_simp; rfl)); (case hp => exact (Reps.one (show Kd.M (Kd.int .u8) _ _ _ a2 [.int .u8 a2] from rfl) (Reps.none _ _))); intro v170 w31 ho32 hb hg_ hnew_; clear hg_ hnew_; (first | rw [← Ny169.out] at ho32 | (simp only [Int.reduceToNat] at ho32; rw [← Ny169.out] at ho32)); have n0_ := Aside0.mk (Kd.R_below (by (with_reducible repeat (first | apply Kd.R_alloc | apply Kd.R_drewN | apply Kd.R_drew)); exact HO167.out) hb); have n1_ := Aside0.mk (Kd.R_lower ho32 (below_size (by repeat (first | (with_reducible first | exact HB.out | apply below_alloc | apply pw_below_drewN | apply below_drew1 | refine below_set ?_ GE163.out) | exact HB.out)))); have n2_ := Aside0.mk (blk_below (g := gb163) (o := .cells #[.slice A0_0 l0_0.length c0_0, .slice A0_1 l0_1.length c0_1] 35 (0, 0)) (by (with_reducible repeat (first | refine blk_drewN ?_ _ | refine blk_drew ?_ | refine blk_alloc ?_ _)); exact BK163.out) hb); have n3_ := Aside0.mk (below_step (by repeat (first | (with_reducible first | exact HB.out | apply below_alloc | apply pw_below_drewN | apply below_drew1 | refine below_set ?_ GE163.out) | exact HB.out)) hb); clear HO167; clear BK163; clear HB; have HO167 := n0_; have HO171 := n1_; have BK163 := n2_; have HB := n3_; clear n0_ n1_ n2_ n3_; clear hb ho32; have hcv33 := own_string (P := Tryz.prog) Tryz.underlying39 Tryz.underlying5 Tryz.underlying9 (Kd.own_of_R HO171.out)) | (go_at_call 14; (with_reducible refine (tuple_Name.calls k1 ((⟨#[97]⟩ : ByteArray) ++ (strOfNums y169)) t172 _ A18.out).mono ?_); rintro e w' ⟨rfl, ⟨nd, rfl⟩⟩))
                    go_meet
                    case rel => exact ⟨_, (true), (by first | rfl | (simp; done) | (simp [*]; done)), H', ⟨by have := HK1.out; first | omega | exact Nat.le_refl _⟩, ⟨by (with_reducible repeat (first | apply Kd.R_alloc | apply Kd.R_drewN | apply Kd.R_drew)); exact HO167.out⟩, ⟨by (with_reducible repeat (first | refine blk_drewN ?_ _ | refine blk_drew ?_ | refine blk_alloc ?_ _)); exact BK163.out⟩, ⟨by repeat (first | (with_reducible first | exact HB.out | apply below_alloc | apply pw_below_drewN | apply below_drew1 | refine below_set ?_ GE163.out) | exact HB.out)⟩⟩
                  · rw [if_neg c30] at H
                    have c30b0 : (t172 != false) = false := by simpa using c30
                    (try (have c30b1 : decide (t172 = false) = true := by simpa using c30))
                    (try (have c30b2 : (t172 == false) = true := by simpa using c30))
                    clear c30
                    replace H := Option.bind_eq_some_iff.mp H
                    obtain ⟨t174, A340, H⟩ := H
                    replace H : (broadsidelaw3_TupleNames.j1 k1 a3 a4 t165 (!t174)) = some r := H
                    have A34 := Aside0.mk A340
                    clear A340
                    have H' := Aside0.mk H
                    clear H
                    go_wp2_with (first | ((with_reducible refine gate_callee (f := 14) rfl ?_); refine goesL_ (some 28) rfl rfl Tryz.func14 (by kernel_rfl) rfl #[.string x11_1] rfl (by (try simp only [List.map_toArray, List.map_cons, List.map_nil]); first | done | rfl | (simp only [List.length_drop, List.length_take]; rfl)) ?_; (with_reducible refine (tuple_Name.calls k1 x11_1 t168 _ A14.out).mono ?_); rintro e w' ⟨rfl, ⟨nd, rfl⟩⟩; refine ⟨_, rfl, ?_⟩) | ((with_reducible refine gate_dst (N := 40) rfl ?_); (try (refine gate_guard (by rfl) ?_; dsimp only)); refine Kd.R_lit (Kd.int .u8) _ 5 ?hg (N := 40) ?hd (xs := ([a2] : List Int)) (inner := [.int .u8 a2]) (ok := fun _ => True) (okp := fun _ => True) ?hr ?hp (fun _ hk => hk) trivial (Below.refl _ _) (Nat.le_refl _) (by simp) ?_; (case hd => rfl); (case hg => rfl); (case hr => first | (go_simp; done) | (go_simp; rfl)); (case hp => exact (Reps.one (show Kd.M (Kd.int .u8) _ _ _ a2 [.int .u8 a2] from rfl) (Reps.none _ _))); intro v170 w35 ho36 hb hg_ hnew_; clear hg_ hnew_; (first | rw [← Ny169.out] at ho36 | (simp only [Int.reduceToNat] at ho36; rw [← Ny169.out] at ho36)); have n0_ := Aside0.mk (Kd.R_below (by (with_reducible repeat (first | apply Kd.R_alloc | apply Kd.R_drewN | apply Kd.R_drew)); exact HO167.out) hb); have n1_ := Aside0.mk (Kd.R_lower ho36 (below_size (by repeat (first | (with_reducible first | exact HB.out | apply below_alloc | apply pw_below_drewN | apply below_drew1 | refine below_set ?_ GE163.out) | exact HB.out)))); have n2_ := Aside0.mk (blk_below (g := gb163) (o := .cells #[.slice A0_0 l0_0.length c0_0, .slice A0_1 l0_1.length c0_1] 35 (0, 0)) (by (with_reducible repeat (first | refine blk_drewN ?_ _ | refine blk_drew ?_ | refine blk_alloc ?_ _)); exact BK163.out) hb); have n3_ := Aside0.mk (below_step (by repeat (first | (with_reducible first | exact HB.out | apply below_alloc | apply pw_below_drewN | apply below_drew1 | refine below_set ?_ GE163.out) | exact HB.out)) hb); clear HO167; clear BK163; clear HB; have HO167 := n0_; have HO171 := n1_; have BK163 := n2_; have HB := n3_; clear n0_ n1_ n2_ n3_; clear hb ho36; have hcv37 := own_string (P := Tryz.prog) Tryz.underlying39 Tryz.underlying5 Tryz.underlying9 (Kd.own_of_R HO171.out)) | (go_at_call 14; (with_reducible refine (tuple_Name.calls k1 ((⟨#[97]⟩ : ByteArray) ++ (strOfNums y169)) t172 _ A18.out).mono ?_); rintro e w' ⟨rfl, ⟨nd, rfl⟩⟩; obtain ⟨Ao38, co38, eo38⟩ := Kd.R_slice HO167.out; subst eo38) | (go_at_call 11; (with_reducible refine (tuple_Right.calls k1 _ _ t165 t174 _ ?side1 ?side2 A34.out).mono ?_); (case side1 => repeat (first | exact (Kd.R_reads' HO167.out).2.2 | (with_reducible refine Kd.C_alloc ?_ _) | (with_reducible refine Kd.C_drewN ?_ _) | (with_reducible refine Kd.C_drew ?_))); (case side2 => exact (Kd.R_reads' HO167.out).2.1); rintro e w39 ⟨rfl, hb⟩; have n0_ := Aside0.mk (Kd.R_below (by (with_reducible repeat (first | apply Kd.R_alloc | apply Kd.R_drewN | apply Kd.R_drew)); exact HO167.out) hb); have n1_ := Aside0.mk (Kd.R_below (by (with_reducible repeat (first | apply Kd.R_alloc | apply Kd.R_drewN | apply Kd.R_drew)); exact HO171.out) hb); have n2_ := Aside0.mk (blk_below (g := gb163) (o := .cells #[.slice A0_0 l0_0.length c0_0, .slice A0_1 l0_1.length c0_1] 35 (0, 0)) (by (with_reducible repeat (first | refine blk_drewN ?_ _ | refine blk_drew ?_ | refine blk_alloc ?_ _)); exact BK163.out) hb); have n3_ := Aside0.mk (below_step (by repeat (first | (with_reducible first | exact HB.out | apply below_alloc | apply pw_below_drewN | apply below_drew1 | refine below_set ?_ GE163.out) | exact HB.out)) hb); clear HO167; clear HO171; clear BK163; clear HB; have HO167 := n0_; have HO171 := n1_; have BK163 := n2_; have HB := n3_; clear n0_ n1_ n2_ n3_; (try clear hb); (try clear hb2); (try clear hk); (try clear hi)))
                    go_meet
                    case rel => exact ⟨_, (!t174), (by first | rfl | (simp; done) | (simp [*]; done)), H', ⟨by have := HK1.out; first | omega | exact Nat.le_refl _⟩, ⟨by (with_reducible repeat (first | apply Kd.R_alloc | apply Kd.R_drewN | apply Kd.R_drew)); exact HO167.out⟩, ⟨by (with_reducible repeat (first | refine blk_drewN ?_ _ | refine blk_drew ?_ | refine blk_alloc ?_ _)); exact BK163.out⟩, ⟨by repeat (first | (with_reducible first | exact HB.out | apply below_alloc | apply pw_below_drewN | apply below_drew1 | refine below_set ?_ GE163.out) | exact HB.out)⟩⟩
              · rw [if_neg c17] at H
                exact absurd H (by simp)
          · rw [if_neg c15] at H
            have c15b0 : decide (1 ≤ (x11_1.size : Int)) = false := decide_eq_false c15
            have c15b1 : decide (1 ≤ x11_1.size) = false := decide_eq_false (by omega)
            clear c15
            (first | rw [c15b0] | (simp only [i64_w, i32_w]; rw [c15b0]) | skip)
            by_cases c40 : (t168 != false) = true
            · rw [if_pos c40] at H
              have c40b0 : (t168 != false) = true := c40
              (try (have c40b1 : decide (t168 = false) = false := by simpa using c40))
              (try (have c40b2 : (t168 == false) = false := by simpa using c40))
              (try (have c40b3 : ¬ (t168 = false) := by simpa using c40))
              clear c40
              have H' := Aside0.mk H
              clear H
              go_wp2_with (first | ((with_reducible refine gate_callee (f := 14) rfl ?_); refine goesL_ (some 28) rfl rfl Tryz.func14 (by kernel_rfl) rfl #[.string x11_1] rfl (by (try simp only [List.map_toArray, List.map_cons, List.map_nil]); first | done | rfl | (simp only [List.length_drop, List.length_take]; rfl)) ?_; (with_reducible refine (tuple_Name.calls k1 x11_1 t168 _ A14.out).mono ?_); rintro e w' ⟨rfl, ⟨nd, rfl⟩⟩; refine ⟨_, rfl, ?_⟩))
              go_meet
              case rel => exact ⟨_, (true), (by first | rfl | (simp; done) | (simp [*]; done)), H', ⟨by have := HK1.out; first | omega | exact Nat.le_refl _⟩, ⟨by (with_reducible repeat (first | apply Kd.R_alloc | apply Kd.R_drewN | apply Kd.R_drew)); exact HO167.out⟩, ⟨by (with_reducible repeat (first | refine blk_drewN ?_ _ | refine blk_drew ?_ | refine blk_alloc ?_ _)); exact BK163.out⟩, ⟨by repeat (first | (with_reducible first | exact HB.out | apply below_alloc | apply pw_below_drewN | apply below_drew1 | refine below_set ?_ GE163.out) | exact HB.out)⟩⟩
            · rw [if_neg c40] at H
              have c40b0 : (t168 != false) = false := by simpa using c40
              (try (have c40b1 : decide (t168 = false) = true := by simpa using c40))
              (try (have c40b2 : (t168 == false) = true := by simpa using c40))
              clear c40
              obtain ⟨y175, hy175⟩ : ∃ y_ : List Int, y_ = (([a2] : List Int)) := ⟨_, rfl⟩
              replace H : (if 1 + (strOfNums y175).size ≤ 9223372036854775807 then ((tuple_Name.f k1 ((⟨#[97]⟩ : ByteArray) ++ (strOfNums y175))).bind fun t178 => (if a2 ≥ 97 then (if (t178 != (decide (a2 ≤ 122))) = true then (broadsidelaw3_TupleNames.j1 k1 a3 a4 t165 true) else ((tuple_Right.f k1 t165).bind fun t179 => (broadsidelaw3_TupleNames.j1 k1 a3 a4 t165 (!t179)))) else (if (t178 != false) = true then (broadsidelaw3_TupleNames.j1 k1 a3 a4 t165 true) else ((tuple_Right.f k1 t165).bind fun t180 => (broadsidelaw3_TupleNames.j1 k1 a3 a4 t165 (!t180)))))) else (none)) = some r := by first | (rw [hy175]; with_reducible exact H) | (have H2_ := (Option.bind_some _ _).symm.trans H; rw [hy175]; with_reducible exact H2_) | (have H2_ := (Option.bind_some _ _).symm.trans H; with_reducible exact H2_) | with_reducible exact H | (rw [hy175]; exact H) | exact H
              have Ny175 := Aside0.mk hy175
              clear hy175
              by_cases c41 : 1 + (strOfNums y175).size ≤ 9223372036854775807
              · rw [if_pos c41] at H
                have c41b0 := eq_true c41
                have c41b1 : decide (1 + (strOfNums y175).size ≤ 9223372036854775807) = true := decide_eq_true c41
                try have c41b2 : (9223372036854775807 < 1 + (strOfNums y175).size) = False := eq_false (Nat.not_lt.2 c41)
                replace H := Option.bind_eq_some_iff.mp H
                obtain ⟨t178, A420, H⟩ := H
                replace H : (if a2 ≥ 97 then (if (t178 != (decide (a2 ≤ 122))) = true then (broadsidelaw3_TupleNames.j1 k1 a3 a4 t165 true) else ((tuple_Right.f k1 t165).bind fun t179 => (broadsidelaw3_TupleNames.j1 k1 a3 a4 t165 (!t179)))) else (if (t178 != false) = true then (broadsidelaw3_TupleNames.j1 k1 a3 a4 t165 true) else ((tuple_Right.f k1 t165).bind fun t180 => (broadsidelaw3_TupleNames.j1 k1 a3 a4 t165 (!t180))))) = some r := H
                have A42 := Aside0.mk A420
                clear A420
                by_cases c43 : a2 ≥ 97
                · rw [if_pos c43] at H
                  have c43b0 : decide (97 ≤ a2) = true := decide_eq_true c43
                  clear c43
                  by_cases c44 : (t178 != (decide (a2 ≤ 122))) = true
                  · rw [if_pos c44] at H
                    have c44b0 : (t178 != (decide (a2 ≤ 122))) = true := c44
                    (try (have c44b1 : decide (t178 = (decide (a2 ≤ 122))) = false := by simpa using c44))
                    (try (have c44b2 : (t178 == (decide (a2 ≤ 122))) = false := by simpa using c44))
                    (try (have c44b3 : ¬ (t178 = (decide (a2 ≤ 122))) := by simpa using c44))
                    clear c44
                    have H' := Aside0.mk H
                    clear H
                    go_wp2_with (first | ((with_reducible refine gate_callee (f := 14) rfl ?_); refine goesL_ (some 28) rfl rfl Tryz.func14 (by kernel_rfl) rfl #[.string x11_1] rfl (by (try simp only [List.map_toArray, List.map_cons, List.map_nil]); first | done | rfl | (simp only [List.length_drop, List.length_take]; rfl)) ?_; (with_reducible refine (tuple_Name.calls k1 x11_1 t168 _ A14.out).mono ?_); rintro e w' ⟨rfl, ⟨nd, rfl⟩⟩; refine ⟨_, rfl, ?_⟩) | ((with_reducible refine gate_dst (N := 40) rfl ?_); (try (refine gate_guard (by rfl) ?_; dsimp only)); refine Kd.R_lit (Kd.int .u8) _ 5 ?hg (N := 40) ?hd (xs := ([a2] : List Int)) (inner := [.int .u8 a2]) (ok := fun _ => True) (okp := fun _ => True) ?hr ?hp (fun _ hk => hk) trivial (Below.refl _ _) (Nat.le_refl _) (by simp) ?_; (case hd => rfl); (case hg => rfl); (case hr => first | (go_simp; done) | (go_simp; rfl)); (case hp => exact (Reps.one (show Kd.M (Kd.int .u8) _ _ _ a2 [.int .u8 a2] from rfl) (Reps.none _ _))); intro v176 w45 ho46 hb hg_ hnew_; clear hg_ hnew_; (first | rw [← Ny175.out] at ho46 | (simp only [Int.reduceToNat] at ho46; rw [← Ny175.out] at ho46)); have n0_ := Aside0.mk (Kd.R_below (by (with_reducible repeat (first | apply Kd.R_alloc | apply Kd.R_drewN | apply Kd.R_drew)); exact HO167.out) hb); have n1_ := Aside0.mk (Kd.R_lower ho46 (below_size (by repeat (first | (with_reducible first | exact HB.out | apply below_alloc | apply pw_below_drewN | apply below_drew1 | refine below_set ?_ GE163.out) | exact HB.out)))); have n2_ := Aside0.mk (blk_below (g := gb163) (o := .cells #[.slice A0_0 l0_0.length c0_0, .slice A0_1 l0_1.length c0_1] 35 (0, 0)) (by (with_reducible repeat (first | refine blk_drewN ?_ _ | refine blk_drew ?_ | refine blk_alloc ?_ _)); exact BK163.out) hb); have n3_ := Aside0.mk (below_step (by repeat (first | (with_reducible first | exact HB.out | apply below_alloc | apply pw_below_drewN | apply below_drew1 | refine below_set ?_ GE163.out) | exact HB.out)) hb); clear HO167; clear BK163; clear HB; have HO167 := n0_; have HO177 := n1_; have BK163 := n2_; have HB := n3_; clear n0_ n1_ n2_ n3_; clear hb ho46; have hcv47 := own_string (P := Tryz.prog) Tryz.underlying39 Tryz.underlying5 Tryz.underlying9 (Kd.own_of_R HO177.out)) | (go_at_call 14; (with_reducible refine (tuple_Name.calls k1 ((⟨#[97]⟩ : ByteArray) ++ (strOfNums y175)) t178 _ A42.out).mono ?_); rintro e w' ⟨rfl, ⟨nd, rfl⟩⟩))
                    go_meet
                    case rel => exact ⟨_, (true), (by first | rfl | (simp; done) | (simp [*]; done)), H', ⟨by have := HK1.out; first | omega | exact Nat.le_refl _⟩, ⟨by (with_reducible repeat (first | apply Kd.R_alloc | apply Kd.R_drewN | apply Kd.R_drew)); exact HO167.out⟩, ⟨by (with_reducible repeat (first | refine blk_drewN ?_ _ | refine blk_drew ?_ | refine blk_alloc ?_ _)); exact BK163.out⟩, ⟨by repeat (first | (with_reducible first | exact HB.out | apply below_alloc | apply pw_below_drewN | apply below_drew1 | refine below_set ?_ GE163.out) | exact HB.out)⟩⟩
                  · rw [if_neg c44] at H
                    have c44b0 : (t178 != (decide (a2 ≤ 122))) = false := by simpa using c44
                    (try (have c44b1 : decide (t178 = (decide (a2 ≤ 122))) = true := by simpa using c44))
                    (try (have c44b2 : (t178 == (decide (a2 ≤ 122))) = true := by simpa using c44))
                    clear c44
                    replace H := Option.bind_eq_some_iff.mp H
                    obtain ⟨t179, A480, H⟩ := H
                    replace H : (broadsidelaw3_TupleNames.j1 k1 a3 a4 t165 (!t179)) = some r := H
                    have A48 := Aside0.mk A480
                    clear A480
                    have H' := Aside0.mk H
                    clear H
                    go_wp2_with (first | ((with_reducible refine gate_callee (f := 14) rfl ?_); refine goesL_ (some 28) rfl rfl Tryz.func14 (by kernel_rfl) rfl #[.string x11_1] rfl (by (try simp only [List.map_toArray, List.map_cons, List.map_nil]); first | done | rfl | (simp only [List.length_drop, List.length_take]; rfl)) ?_; (with_reducible refine (tuple_Name.calls k1 x11_1 t168 _ A14.out).mono ?_); rintro e w' ⟨rfl, ⟨nd, rfl⟩⟩; refine ⟨_, rfl, ?_⟩) | ((with_reducible refine gate_dst (N := 40) rfl ?_); (try (refine gate_guard (by rfl) ?_; dsimp only)); refine Kd.R_lit (Kd.int .u8) _ 5 ?hg (N := 40) ?hd (xs := ([a2] : List Int)) (inner := [.int .u8 a2]) (ok := fun _ => True) (okp := fun _ => True) ?hr ?hp (fun _ hk => hk) trivial (Below.refl _ _) (Nat.le_refl _) (by simp) ?_; (case hd => rfl); (case hg => rfl); (case hr => first | (go_simp; done) | (go_simp; rfl)); (case hp => exact (Reps.one (show Kd.M (Kd.int .u8) _ _ _ a2 [.int .u8 a2] from rfl) (Reps.none _ _))); intro v176 w49 ho50 hb hg_ hnew_; clear hg_ hnew_; (first | rw [← Ny175.out] at ho50 | (simp only [Int.reduceToNat] at ho50; rw [← Ny175.out] at ho50)); have n0_ := Aside0.mk (Kd.R_below (by (with_reducible repeat (first | apply Kd.R_alloc | apply Kd.R_drewN | apply Kd.R_drew)); exact HO167.out) hb); have n1_ := Aside0.mk (Kd.R_lower ho50 (below_size (by repeat (first | (with_reducible first | exact HB.out | apply below_alloc | apply pw_below_drewN | apply below_drew1 | refine below_set ?_ GE163.out) | exact HB.out)))); have n2_ := Aside0.mk (blk_below (g := gb163) (o := .cells #[.slice A0_0 l0_0.length c0_0, .slice A0_1 l0_1.length c0_1] 35 (0, 0)) (by (with_reducible repeat (first | refine blk_drewN ?_ _ | refine blk_drew ?_ | refine blk_alloc ?_ _)); exact BK163.out) hb); have n3_ := Aside0.mk (below_step (by repeat (first | (with_reducible first | exact HB.out | apply below_alloc | apply pw_below_drewN | apply below_drew1 | refine below_set ?_ GE163.out) | exact HB.out)) hb); clear HO167; clear BK163; clear HB; have HO167 := n0_; have HO177 := n1_; have BK163 := n2_; have HB := n3_; clear n0_ n1_ n2_ n3_; clear hb ho50; have hcv51 := own_string (P := Tryz.prog) Tryz.underlying39 Tryz.underlying5 Tryz.underlying9 (Kd.own_of_R HO177.out)) | (go_at_call 14; (with_reducible refine (tuple_Name.calls k1 ((⟨#[97]⟩ : ByteArray) ++ (strOfNums y175)) t178 _ A42.out).mono ?_); rintro e w' ⟨rfl, ⟨nd, rfl⟩⟩; obtain ⟨Ao52, co52, eo52⟩ := Kd.R_slice HO167.out; subst eo52) | (go_at_call 11; (with_reducible refine (tuple_Right.calls k1 _ _ t165 t179 _ ?side1 ?side2 A48.out).mono ?_); (case side1 => repeat (first | exact (Kd.R_reads' HO167.out).2.2 | (with_reducible refine Kd.C_alloc ?_ _) | (with_reducible refine Kd.C_drewN ?_ _) | (with_reducible refine Kd.C_drew ?_))); (case side2 => exact (Kd.R_reads' HO167.out).2.1); rintro e w53 ⟨rfl, hb⟩; have n0_ := Aside0.mk (Kd.R_below (by (with_reducible repeat (first | apply Kd.R_alloc | apply Kd.R_drewN | apply Kd.R_drew)); exact HO167.out) hb); have n1_ := Aside0.mk (Kd.R_below (by (with_reducible repeat (first | apply Kd.R_alloc | apply Kd.R_drewN | apply Kd.R_drew)); exact HO177.out) hb); have n2_ := Aside0.mk (blk_below (g := gb163) (o := .cells #[.slice A0_0 l0_0.length c0_0, .slice A0_1 l0_1.length c0_1] 35 (0, 0)) (by (with_reducible repeat (first | refine blk_drewN ?_ _ | refine blk_drew ?_ | refine blk_alloc ?_ _)); exact BK163.out) hb); have n3_ := Aside0.mk (below_step (by repeat (first | (with_reducible first | exact HB.out | apply below_alloc | apply pw_below_drewN | apply below_drew1 | refine below_set ?_ GE163.out) | exact HB.out)) hb); clear HO167; clear HO177; clear BK163; clear HB; have HO167 := n0_; have HO177 := n1_; have BK163 := n2_; have HB := n3_; clear n0_ n1_ n2_ n3_; (try clear hb); (try clear hb2); (try clear hk); (try clear hi)))
                    go_meet
                    case rel => exact ⟨_, (!t179), (by first | rfl | (simp; done) | (simp [*]; done)), H', ⟨by have := HK1.out; first | omega | exact Nat.le_refl _⟩, ⟨by (with_reducible repeat (first | apply Kd.R_alloc | apply Kd.R_drewN | apply Kd.R_drew)); exact HO167.out⟩, ⟨by (with_reducible repeat (first | refine blk_drewN ?_ _ | refine blk_drew ?_ | refine blk_alloc ?_ _)); exact BK163.out⟩, ⟨by repeat (first | (with_reducible first | exact HB.out | apply below_alloc | apply pw_below_drewN | apply below_drew1 | refine below_set ?_ GE163.out) | exact HB.out)⟩⟩
                · rw [if_neg c43] at H
                  have c43b0 : decide (97 ≤ a2) = false := decide_eq_false c43
                  clear c43
                  by_cases c54 : (t178 != false) = true
                  · rw [if_pos c54] at H
                    have c54b0 : (t178 != false) = true := c54
                    (try (have c54b1 : decide (t178 = false) = false := by simpa using c54))
                    (try (have c54b2 : (t178 == false) = false := by simpa using c54))
                    (try (have c54b3 : ¬ (t178 = false) := by simpa using c54))
                    clear c54
                    have H' := Aside0.mk H
                    clear H
                    go_wp2_with (first | ((with_reducible refine gate_callee (f := 14) rfl ?_); refine goesL_ (some 28) rfl rfl Tryz.func14 (by kernel_rfl) rfl #[.string x11_1] rfl (by (try simp only [List.map_toArray, List.map_cons, List.map_nil]); first | done | rfl | (simp only [List.length_drop, List.length_take]; rfl)) ?_; (with_reducible refine (tuple_Name.calls k1 x11_1 t168 _ A14.out).mono ?_); rintro e w' ⟨rfl, ⟨nd, rfl⟩⟩; refine ⟨_, rfl, ?_⟩) | ((with_reducible refine gate_dst (N := 40) rfl ?_); (try (refine gate_guard (by rfl) ?_; dsimp only)); refine Kd.R_lit (Kd.int .u8) _ 5 ?hg (N := 40) ?hd (xs := ([a2] : List Int)) (inner := [.int .u8 a2]) (ok := fun _ => True) (okp := fun _ => True) ?hr ?hp (fun _ hk => hk) trivial (Below.refl _ _) (Nat.le_refl _) (by simp) ?_; (case hd => rfl); (case hg => rfl); (case hr => first | (go_simp; done) | (go_simp; rfl)); (case hp => exact (Reps.one (show Kd.M (Kd.int .u8) _ _ _ a2 [.int .u8 a2] from rfl) (Reps.none _ _))); intro v176 w55 ho56 hb hg_ hnew_; clear hg_ hnew_; (first | rw [← Ny175.out] at ho56 | (simp only [Int.reduceToNat] at ho56; rw [← Ny175.out] at ho56)); have n0_ := Aside0.mk (Kd.R_below (by (with_reducible repeat (first | apply Kd.R_alloc | apply Kd.R_drewN | apply Kd.R_drew)); exact HO167.out) hb); have n1_ := Aside0.mk (Kd.R_lower ho56 (below_size (by repeat (first | (with_reducible first | exact HB.out | apply below_alloc | apply pw_below_drewN | apply below_drew1 | refine below_set ?_ GE163.out) | exact HB.out)))); have n2_ := Aside0.mk (blk_below (g := gb163) (o := .cells #[.slice A0_0 l0_0.length c0_0, .slice A0_1 l0_1.length c0_1] 35 (0, 0)) (by (with_reducible repeat (first | refine blk_drewN ?_ _ | refine blk_drew ?_ | refine blk_alloc ?_ _)); exact BK163.out) hb); have n3_ := Aside0.mk (below_step (by repeat (first | (with_reducible first | exact HB.out | apply below_alloc | apply pw_below_drewN | apply below_drew1 | refine below_set ?_ GE163.out) | exact HB.out)) hb); clear HO167; clear BK163; clear HB; have HO167 := n0_; have HO177 := n1_; have BK163 := n2_; have HB := n3_; clear n0_ n1_ n2_ n3_; clear hb ho56; have hcv57 := own_string (P := Tryz.prog) Tryz.underlying39 Tryz.underlying5 Tryz.underlying9 (Kd.own_of_R HO177.out)) | (go_at_call 14; (with_reducible refine (tuple_Name.calls k1 ((⟨#[97]⟩ : ByteArray) ++ (strOfNums y175)) t178 _ A42.out).mono ?_); rintro e w' ⟨rfl, ⟨nd, rfl⟩⟩))
                    go_meet
                    case rel => exact ⟨_, (true), (by first | rfl | (simp; done) | (simp [*]; done)), H', ⟨by have := HK1.out; first | omega | exact Nat.le_refl _⟩, ⟨by (with_reducible repeat (first | apply Kd.R_alloc | apply Kd.R_drewN | apply Kd.R_drew)); exact HO167.out⟩, ⟨by (with_reducible repeat (first | refine blk_drewN ?_ _ | refine blk_drew ?_ | refine blk_alloc ?_ _)); exact BK163.out⟩, ⟨by repeat (first | (with_reducible first | exact HB.out | apply below_alloc | apply pw_below_drewN | apply below_drew1 | refine below_set ?_ GE163.out) | exact HB.out)⟩⟩
                  · rw [if_neg c54] at H
                    have c54b0 : (t178 != false) = false := by simpa using c54
                    (try (have c54b1 : decide (t178 = false) = true := by simpa using c54))
                    (try (have c54b2 : (t178 == false) = true := by simpa using c54))
                    clear c54
                    replace H := Option.bind_eq_some_iff.mp H
                    obtain ⟨t180, A580, H⟩ := H
                    replace H : (broadsidelaw3_TupleNames.j1 k1 a3 a4 t165 (!t180)) = some r := H
                    have A58 := Aside0.mk A580
                    clear A580
                    have H' := Aside0.mk H
                    clear H
                    go_wp2_with (first | ((with_reducible refine gate_callee (f := 14) rfl ?_); refine goesL_ (some 28) rfl rfl Tryz.func14 (by kernel_rfl) rfl #[.string x11_1] rfl (by (try simp only [List.map_toArray, List.map_cons, List.map_nil]); first | done | rfl | (simp only [List.length_drop, List.length_take]; rfl)) ?_; (with_reducible refine (tuple_Name.calls k1 x11_1 t168 _ A14.out).mono ?_); rintro e w' ⟨rfl, ⟨nd, rfl⟩⟩; refine ⟨_, rfl, ?_⟩) | ((with_reducible refine gate_dst (N := 40) rfl ?_); (try (refine gate_guard (by rfl) ?_; dsimp only)); refine Kd.R_lit (Kd.int .u8) _ 5 ?hg (N := 40) ?hd (xs := ([a2] : List Int)) (inner := [.int .u8 a2]) (ok := fun _ => True) (okp := fun _ => True) ?hr ?hp (fun _ hk => hk) trivial (Below.refl _ _) (Nat.le_refl _) (by simp) ?_; (case hd => rfl); (case hg => rfl); (case hr => first | (go_simp; done) | (go_simp; rfl)); (case hp => exact (Reps.one (show Kd.M (Kd.int .u8) _ _ _ a2 [.int .u8 a2] from rfl) (Reps.none _ _))); intro v176 w59 ho60 hb hg_ hnew_; clear hg_ hnew_; (first | rw [← Ny175.out] at ho60 | (simp only [Int.reduceToNat] at ho60; rw [← Ny175.out] at ho60)); have n0_ := Aside0.mk (Kd.R_below (by (with_reducible repeat (first | apply Kd.R_alloc | apply Kd.R_drewN | apply Kd.R_drew)); exact HO167.out) hb); have n1_ := Aside0.mk (Kd.R_lower ho60 (below_size (by repeat (first | (with_reducible first | exact HB.out | apply below_alloc | apply pw_below_drewN | apply below_drew1 | refine below_set ?_ GE163.out) | exact HB.out)))); have n2_ := Aside0.mk (blk_below (g := gb163) (o := .cells #[.slice A0_0 l0_0.length c0_0, .slice A0_1 l0_1.length c0_1] 35 (0, 0)) (by (with_reducible repeat (first | refine blk_drewN ?_ _ | refine blk_drew ?_ | refine blk_alloc ?_ _)); exact BK163.out) hb); have n3_ := Aside0.mk (below_step (by repeat (first | (with_reducible first | exact HB.out | apply below_alloc | apply pw_below_drewN | apply below_drew1 | refine below_set ?_ GE163.out) | exact HB.out)) hb); clear HO167; clear BK163; clear HB; have HO167 := n0_; have HO177 := n1_; have BK163 := n2_; have HB := n3_; clear n0_ n1_ n2_ n3_; clear hb ho60; have hcv61 := own_string (P := Tryz.prog) Tryz.underlying39 Tryz.underlying5 Tryz.underlying9 (Kd.own_of_R HO177.out)) | (go_at_call 14; (with_reducible refine (tuple_Name.calls k1 ((⟨#[97]⟩ : ByteArray) ++ (strOfNums y175)) t178 _ A42.out).mono ?_); rintro e w' ⟨rfl, ⟨nd, rfl⟩⟩; obtain ⟨Ao62, co62, eo62⟩ := Kd.R_slice HO167.out; subst eo62) | (go_at_call 11; (with_reducible refine (tuple_Right.calls k1 _ _ t165 t180 _ ?side1 ?side2 A58.out).mono ?_); (case side1 => repeat (first | exact (Kd.R_reads' HO167.out).2.2 | (with_reducible refine Kd.C_alloc ?_ _) | (with_reducible refine Kd.C_drewN ?_ _) | (with_reducible refine Kd.C_drew ?_))); (case side2 => exact (Kd.R_reads' HO167.out).2.1); rintro e w63 ⟨rfl, hb⟩; have n0_ := Aside0.mk (Kd.R_below (by (with_reducible repeat (first | apply Kd.R_alloc | apply Kd.R_drewN | apply Kd.R_drew)); exact HO167.out) hb); have n1_ := Aside0.mk (Kd.R_below (by (with_reducible repeat (first | apply Kd.R_alloc | apply Kd.R_drewN | apply Kd.R_drew)); exact HO177.out) hb); have n2_ := Aside0.mk (blk_below (g := gb163) (o := .cells #[.slice A0_0 l0_0.length c0_0, .slice A0_1 l0_1.length c0_1] 35 (0, 0)) (by (with_reducible repeat (first | refine blk_drewN ?_ _ | refine blk_drew ?_ | refine blk_alloc ?_ _)); exact BK163.out) hb); have n3_ := Aside0.mk (below_step (by repeat (first | (with_reducible first | exact HB.out | apply below_alloc | apply pw_below_drewN | apply below_drew1 | refine below_set ?_ GE163.out) | exact HB.out)) hb); clear HO167; clear HO177; clear BK163; clear HB; have HO167 := n0_; have HO177 := n1_; have BK163 := n2_; have HB := n3_; clear n0_ n1_ n2_ n3_; (try clear hb); (try clear hb2); (try clear hk); (try clear hi)))
                    go_meet
                    case rel => exact ⟨_, (!t180), (by first | rfl | (simp; done) | (simp [*]; done)), H', ⟨by have := HK1.out; first | omega | exact Nat.le_refl _⟩, ⟨by (with_reducible repeat (first | apply Kd.R_alloc | apply Kd.R_drewN | apply Kd.R_drew)); exact HO167.out⟩, ⟨by (with_reducible repeat (first | refine blk_drewN ?_ _ | refine blk_drew ?_ | refine blk_alloc ?_ _)); exact BK163.out⟩, ⟨by repeat (first | (with_reducible first | exact HB.out | apply below_alloc | apply pw_below_drewN | apply below_drew1 | refine below_set ?_ GE163.out) | exact HB.out)⟩⟩
              · rw [if_neg c41] at H
                exact absurd H (by simp)
        case rest =>
          clear HC11
          try clear c1
          try clear c2
          try clear p2
          try clear hcv2
          try clear c3
          try clear hcv3
          try clear c4
          try clear hcv4
          try clear c5
          try clear hcv5
          try clear p6
          try clear hcv6
          try clear c8
          try clear c8b0
          try clear c9
          try clear c9b0
          try clear c9b1
          try clear c9b2
          try clear c12
          try clear c13
          try clear c14
          try clear c15
          try clear c15b0
          try clear c15b1
          try clear c16
          try clear c16b0
          try clear c16b1
          try clear c16b2
          try clear c17
          try clear c17b0
          try clear c17b1
          try clear c17b2
          try clear c19
          try clear c19b0
          try clear c20
          try clear c20b0
          try clear c20b1
          try clear c20b2
          try clear hcv23
          try clear hcv27
          try clear c30
          try clear c30b0
          try clear c30b1
          try clear c30b2
          try clear hcv33
          try clear hcv37
          try clear c40
          try clear c40b0
          try clear c40b1
          try clear c40b2
          try clear c41
          try clear c41b0
          try clear c41b1
          try clear c41b2
          try clear c43
          try clear c43b0
          try clear c44
          try clear c44b0
          try clear c44b1
          try clear c44b2
          try clear hcv47
          try clear hcv51
          try clear c54
          try clear c54b0
          try clear c54b1
          try clear c54b2
          try clear hcv57
          try clear hcv61
          try clear hcz12_0
          try clear hcz12_1
          try clear hfz12_0
          try clear hfz12_1
          try clear p2
          obtain ⟨kq, x56_10, rfl, HA, HJ10, HO_12, BK163, HB⟩ := hcut
          cases kq with
          | zero => exact absurd HA.out (by simp [broadsidelaw3_TupleNames.j1])
          | succ kj10 =>
            have H := HA.out
            clear HA
            simp only [broadsidelaw3_TupleNames.j1] at H
            by_cases c64 : x56_10 = true
            · subst c64
              have H1 : (some false) = some r := by rw [if_pos rfl] at H; exact H
              exact absurd ((Option.some.inj H1).trans HRT.out) (by decide)
            · replace c64 := Bool.eq_false_iff.mpr c64
              subst c64
              have H1 : (if (t165.length : Int) < 2 then ((broadsidelaw3_TupleRuns.f kj10).bind fun t181 => (some t181)) else ((broadsidebook_Within.f a3 0 (wrap64 ((t165.length : Int) - 1))).bind fun t182 => ((broadsidebook_Within.f a4 0 (wrap64 ((t165.length : Int) - 1))).bind fun t183 => ((some (([] : List (S25)) : List (S25))).bind fun y184 => (if y184.length + t165.length < 2932031007402 then ((some (y184 ++ t165 : List (S25))).bind fun y187 => (if 0 ≤ t183 then (if t183 < (y187.length : Int) then (if 0 ≤ t182 then (if t182 < (y187.length : Int) then ((some (([] : List (S25)) : List (S25))).bind fun y194 => (if y194.length + t165.length < 2932031007402 then ((some (y194 ++ t165 : List (S25))).bind fun y197 => (if 0 ≤ (wrap64 ((t165.length : Int) - 1)) then (if (wrap64 ((t165.length : Int) - 1)) < (t165.length : Int) then (if y197.length < 2932031007402 then ((some (([] : List (S25)) : List (S25))).bind fun y204 => (if y204.length + t165.length < 2932031007402 then ((some (y204 ++ t165 : List (S25))).bind fun y207 => (if t182 < (y207.length : Int) then ((tuple_Right.f kj10 ((y187.set (t182 : Int).toNat (⟨(rd_T25 y187 t183).f0, (⟨(rd_T25 y187 t183).f1.f0, (rd_T25 y187 t183).f1.f1, (rd_T25 y187 t183).f1.f2⟩ : S23)⟩ : S25)).set (t183 : Int).toNat (⟨(rd_T25 y187 t182).f0, (⟨(rd_T25 y187 t182).f1.f0, (rd_T25 y187 t182).f1.f1, (rd_T25 y187 t182).f1.f2⟩ : S23)⟩ : S25))).bind fun t211 => (if (t211 == (t182 == t183)) = true then ((tuple_Right.f kj10 (y197 ++ [(⟨(rd_T25 t165 (wrap64 ((t165.length : Int) - 1))).f0, (⟨(rd_T25 t165 (wrap64 ((t165.length : Int) - 1))).f1.f0, (rd_T25 t165 (wrap64 ((t165.length : Int) - 1))).f1.f1, (rd_T25 t165 (wrap64 ((t165.length : Int) - 1))).f1.f2⟩ : S23)⟩ : S25)])).bind fun t212 => (if t212 = true then (some false) else ((tuple_Right.f kj10 (y207.set (t182 : Int).toNat (⟨(rd_T25 y207 t182).f0, (⟨false, 1, (⟨#[120]⟩ : ByteArray)⟩ : S23)⟩ : S25))).bind fun t213 => (if t213 = true then (some false) else ((broadsidelaw3_TupleRuns.f kj10).bind fun t214 => (some t214)))))) else (some false))) else (none))) else (none))) else (none)) else (none)) else (none))) else (none))) else (none)) else (none)) else (none)) else (none))) else (none)))))) = some r := by rw [if_neg (show ¬ (false = true) by decide)] at H; exact H
              clear H
              have H := H1
              clear H1
              by_cases c65 : (t165.length : Int) < 2
              · rw [if_pos c65] at H
                have c65b0 : decide ((t165.length : Int) < 2) = true := decide_eq_true c65
                have c65b1 : decide (t165.length < 2) = true := decide_eq_true (by omega)
                clear c65
                replace H := Option.bind_eq_some_iff.mp H
                obtain ⟨t181, A660, H⟩ := H
                replace H : (some t181) = some r := H
                have A66 := Aside0.mk A660
                clear A660
                obtain rfl := Option.some.inj H
                obtain ⟨Ao67, co67, eo67⟩ := Kd.R_slice HO_12.out
                subst eo67
                go_wp2_with (first | ((with_reducible refine gate_callee (f := 3) rfl ?_); refine goesL_ (some 60) rfl rfl Tryz.func3 (by kernel_rfl) rfl #[] rfl (by (try simp only [List.map_toArray, List.map_cons, List.map_nil]); first | done | rfl | (simp only [List.length_drop, List.length_take]; rfl)) ?_; (with_reducible refine (broadsidelaw3_TupleRuns.calls kj10  t181 _ (Val.tb HTAB (by repeat (first | (with_reducible first | exact HB.out | apply below_alloc | apply pw_below_drewN | apply below_drew1 | refine below_set ?_ GE163.out) | exact HB.out))) A66.out).mono ?_); rintro e w68 ⟨rfl, hb⟩; refine ⟨_, rfl, ?_⟩; have n0_ := Aside0.mk (Kd.R_below (by (with_reducible repeat (first | apply Kd.R_alloc | apply Kd.R_drewN | apply Kd.R_drew)); exact HO_12.out) hb); have n1_ := Aside0.mk (blk_below (g := gb163) (o := .cells #[.slice A0_0 l0_0.length c0_0, .slice A0_1 l0_1.length c0_1] 35 (0, 0)) (by (with_reducible repeat (first | refine blk_drewN ?_ _ | refine blk_drew ?_ | refine blk_alloc ?_ _)); exact BK163.out) hb); have n2_ := Aside0.mk (below_step (by repeat (first | (with_reducible first | exact HB.out | apply below_alloc | apply pw_below_drewN | apply below_drew1 | refine below_set ?_ GE163.out) | exact HB.out)) hb); clear HO_12; clear BK163; clear HB; have HO_12 := n0_; have BK163 := n1_; have HB := n2_; clear n0_ n1_ n2_; (try clear hb); (try clear hb2); (try clear hk); (try clear hi)))
                go_ret
                exact ⟨by first | rfl | (simp [errW_none, errW_some] <;> rfl) | (simp [*, errW_none, errW_some] <;> rfl), by repeat (first | (with_reducible first | exact HB.out | apply below_alloc | apply pw_below_drewN | apply below_drew1 | refine below_set ?_ GE163.out) | exact HB.out)⟩
              · rw [if_neg c65] at H
                have c65b0 : decide ((t165.length : Int) < 2) = false := decide_eq_false c65
                have c65b1 : decide (t165.length < 2) = false := decide_eq_false (by omega)
                clear c65
                replace H := Option.bind_eq_some_iff.mp H
                obtain ⟨t182, A690, H⟩ := H
                replace H : ((broadsidebook_Within.f a4 0 (wrap64 ((t165.length : Int) - 1))).bind fun t183 => ((some (([] : List (S25)) : List (S25))).bind fun y184 => (if y184.length + t165.length < 2932031007402 then ((some (y184 ++ t165 : List (S25))).bind fun y187 => (if 0 ≤ t183 then (if t183 < (y187.length : Int) then (if 0 ≤ t182 then (if t182 < (y187.length : Int) then ((some (([] : List (S25)) : List (S25))).bind fun y194 => (if y194.length + t165.length < 2932031007402 then ((some (y194 ++ t165 : List (S25))).bind fun y197 => (if 0 ≤ (wrap64 ((t165.length : Int) - 1)) then (if (wrap64 ((t165.length : Int) - 1)) < (t165.length : Int) then (if y197.length < 2932031007402 then ((some (([] : List (S25)) : List (S25))).bind fun y204 => (if y204.length + t165.length < 2932031007402 then ((some (y204 ++ t165 : List (S25))).bind fun y207 => (if t182 < (y207.length : Int) then ((tuple_Right.f kj10 ((y187.set (t182 : Int).toNat (⟨(rd_T25 y187 t183).f0, (⟨(rd_T25 y187 t183).f1.f0, (rd_T25 y187 t183).f1.f1, (rd_T25 y187 t183).f1.f2⟩ : S23)⟩ : S25)).set (t183 : Int).toNat (⟨(rd_T25 y187 t182).f0, (⟨(rd_T25 y187 t182).f1.f0, (rd_T25 y187 t182).f1.f1, (rd_T25 y187 t182).f1.f2⟩ : S23)⟩ : S25))).bind fun t211 => (if (t211 == (t182 == t183)) = true then ((tuple_Right.f kj10 (y197 ++ [(⟨(rd_T25 t165 (wrap64 ((t165.length : Int) - 1))).f0, (⟨(rd_T25 t165 (wrap64 ((t165.length : Int) - 1))).f1.f0, (rd_T25 t165 (wrap64 ((t165.length : Int) - 1))).f1.f1, (rd_T25 t165 (wrap64 ((t165.length : Int) - 1))).f1.f2⟩ : S23)⟩ : S25)])).bind fun t212 => (if t212 = true then (some false) else ((tuple_Right.f kj10 (y207.set (t182 : Int).toNat (⟨(rd_T25 y207 t182).f0, (⟨false, 1, (⟨#[120]⟩ : ByteArray)⟩ : S23)⟩ : S25))).bind fun t213 => (if t213 = true then (some false) else ((broadsidelaw3_TupleRuns.f kj10).bind fun t214 => (some t214)))))) else (some false))) else (none))) else (none))) else (none)) else (none)) else (none))) else (none))) else (none)) else (none)) else (none)) else (none))) else (none)))) = some r := H
                have A69 := Aside0.mk A690
                clear A690
                replace H := Option.bind_eq_some_iff.mp H
                obtain ⟨t183, A700, H⟩ := H
                replace H : ((some (([] : List (S25)) : List (S25))).bind fun y184 => (if y184.length + t165.length < 2932031007402 then ((some (y184 ++ t165 : List (S25))).bind fun y187 => (if 0 ≤ t183 then (if t183 < (y187.length : Int) then (if 0 ≤ t182 then (if t182 < (y187.length : Int) then ((some (([] : List (S25)) : List (S25))).bind fun y194 => (if y194.length + t165.length < 2932031007402 then ((some (y194 ++ t165 : List (S25))).bind fun y197 => (if 0 ≤ (wrap64 ((t165.length : Int) - 1)) then (if (wrap64 ((t165.length : Int) - 1)) < (t165.length : Int) then (if y197.length < 2932031007402 then ((some (([] : List (S25)) : List (S25))).bind fun y204 => (if y204.length + t165.length < 2932031007402 then ((some (y204 ++ t165 : List (S25))).bind fun y207 => (if t182 < (y207.length : Int) then ((tuple_Right.f kj10 ((y187.set (t182 : Int).toNat (⟨(rd_T25 y187 t183).f0, (⟨(rd_T25 y187 t183).f1.f0, (rd_T25 y187 t183).f1.f1, (rd_T25 y187 t183).f1.f2⟩ : S23)⟩ : S25)).set (t183 : Int).toNat (⟨(rd_T25 y187 t182).f0, (⟨(rd_T25 y187 t182).f1.f0, (rd_T25 y187 t182).f1.f1, (rd_T25 y187 t182).f1.f2⟩ : S23)⟩ : S25))).bind fun t211 => (if (t211 == (t182 == t183)) = true then ((tuple_Right.f kj10 (y197 ++ [(⟨(rd_T25 t165 (wrap64 ((t165.length : Int) - 1))).f0, (⟨(rd_T25 t165 (wrap64 ((t165.length : Int) - 1))).f1.f0, (rd_T25 t165 (wrap64 ((t165.length : Int) - 1))).f1.f1, (rd_T25 t165 (wrap64 ((t165.length : Int) - 1))).f1.f2⟩ : S23)⟩ : S25)])).bind fun t212 => (if t212 = true then (some false) else ((tuple_Right.f kj10 (y207.set (t182 : Int).toNat (⟨(rd_T25 y207 t182).f0, (⟨false, 1, (⟨#[120]⟩ : ByteArray)⟩ : S23)⟩ : S25))).bind fun t213 => (if t213 = true then (some false) else ((broadsidelaw3_TupleRuns.f kj10).bind fun t214 => (some t214)))))) else (some false))) else (none))) else (none))) else (none)) else (none)) else (none))) else (none))) else (none)) else (none)) else (none)) else (none))) else (none))) = some r := H
                have A70 := Aside0.mk A700
                clear A700
                obtain ⟨y184, hy184⟩ : ∃ y_ : List (S25), y_ = (([] : List (S25))) := ⟨_, rfl⟩
                replace H : (if y184.length + t165.length < 2932031007402 then ((some (y184 ++ t165 : List (S25))).bind fun y187 => (if 0 ≤ t183 then (if t183 < (y187.length : Int) then (if 0 ≤ t182 then (if t182 < (y187.length : Int) then ((some (([] : List (S25)) : List (S25))).bind fun y194 => (if y194.length + t165.length < 2932031007402 then ((some (y194 ++ t165 : List (S25))).bind fun y197 => (if 0 ≤ (wrap64 ((t165.length : Int) - 1)) then (if (wrap64 ((t165.length : Int) - 1)) < (t165.length : Int) then (if y197.length < 2932031007402 then ((some (([] : List (S25)) : List (S25))).bind fun y204 => (if y204.length + t165.length < 2932031007402 then ((some (y204 ++ t165 : List (S25))).bind fun y207 => (if t182 < (y207.length : Int) then ((tuple_Right.f kj10 ((y187.set (t182 : Int).toNat (⟨(rd_T25 y187 t183).f0, (⟨(rd_T25 y187 t183).f1.f0, (rd_T25 y187 t183).f1.f1, (rd_T25 y187 t183).f1.f2⟩ : S23)⟩ : S25)).set (t183 : Int).toNat (⟨(rd_T25 y187 t182).f0, (⟨(rd_T25 y187 t182).f1.f0, (rd_T25 y187 t182).f1.f1, (rd_T25 y187 t182).f1.f2⟩ : S23)⟩ : S25))).bind fun t211 => (if (t211 == (t182 == t183)) = true then ((tuple_Right.f kj10 (y197 ++ [(⟨(rd_T25 t165 (wrap64 ((t165.length : Int) - 1))).f0, (⟨(rd_T25 t165 (wrap64 ((t165.length : Int) - 1))).f1.f0, (rd_T25 t165 (wrap64 ((t165.length : Int) - 1))).f1.f1, (rd_T25 t165 (wrap64 ((t165.length : Int) - 1))).f1.f2⟩ : S23)⟩ : S25)])).bind fun t212 => (if t212 = true then (some false) else ((tuple_Right.f kj10 (y207.set (t182 : Int).toNat (⟨(rd_T25 y207 t182).f0, (⟨false, 1, (⟨#[120]⟩ : ByteArray)⟩ : S23)⟩ : S25))).bind fun t213 => (if t213 = true then (some false) else ((broadsidelaw3_TupleRuns.f kj10).bind fun t214 => (some t214)))))) else (some false))) else (none))) else (none))) else (none)) else (none)) else (none))) else (none))) else (none)) else (none)) else (none)) else (none))) else (none)) = some r := by first | (rw [hy184]; with_reducible exact H) | (have H2_ := (Option.bind_some _ _).symm.trans H; rw [hy184]; with_reducible exact H2_) | (have H2_ := (Option.bind_some _ _).symm.trans H; with_reducible exact H2_) | with_reducible exact H | (rw [hy184]; exact H) | exact H
                have Ny184 := Aside0.mk hy184
                clear hy184
                by_cases c71 : y184.length + t165.length < 2932031007402
                · rw [if_pos c71] at H
                  have LMc71 := Aside0.mk c71
                  clear c71
                  obtain ⟨y187, hy187⟩ : ∃ y_ : List (S25), y_ = (y184 ++ t165) := ⟨_, rfl⟩
                  replace H : (if 0 ≤ t183 then (if t183 < (y187.length : Int) then (if 0 ≤ t182 then (if t182 < (y187.length : Int) then ((some (([] : List (S25)) : List (S25))).bind fun y194 => (if y194.length + t165.length < 2932031007402 then ((some (y194 ++ t165 : List (S25))).bind fun y197 => (if 0 ≤ (wrap64 ((t165.length : Int) - 1)) then (if (wrap64 ((t165.length : Int) - 1)) < (t165.length : Int) then (if y197.length < 2932031007402 then ((some (([] : List (S25)) : List (S25))).bind fun y204 => (if y204.length + t165.length < 2932031007402 then ((some (y204 ++ t165 : List (S25))).bind fun y207 => (if t182 < (y207.length : Int) then ((tuple_Right.f kj10 ((y187.set (t182 : Int).toNat (⟨(rd_T25 y187 t183).f0, (⟨(rd_T25 y187 t183).f1.f0, (rd_T25 y187 t183).f1.f1, (rd_T25 y187 t183).f1.f2⟩ : S23)⟩ : S25)).set (t183 : Int).toNat (⟨(rd_T25 y187 t182).f0, (⟨(rd_T25 y187 t182).f1.f0, (rd_T25 y187 t182).f1.f1, (rd_T25 y187 t182).f1.f2⟩ : S23)⟩ : S25))).bind fun t211 => (if (t211 == (t182 == t183)) = true then ((tuple_Right.f kj10 (y197 ++ [(⟨(rd_T25 t165 (wrap64 ((t165.length : Int) - 1))).f0, (⟨(rd_T25 t165 (wrap64 ((t165.length : Int) - 1))).f1.f0, (rd_T25 t165 (wrap64 ((t165.length : Int) - 1))).f1.f1, (rd_T25 t165 (wrap64 ((t165.length : Int) - 1))).f1.f2⟩ : S23)⟩ : S25)])).bind fun t212 => (if t212 = true then (some false) else ((tuple_Right.f kj10 (y207.set (t182 : Int).toNat (⟨(rd_T25 y207 t182).f0, (⟨false, 1, (⟨#[120]⟩ : ByteArray)⟩ : S23)⟩ : S25))).bind fun t213 => (if t213 = true then (some false) else ((broadsidelaw3_TupleRuns.f kj10).bind fun t214 => (some t214)))))) else (some false))) else (none))) else (none))) else (none)) else (none)) else (none))) else (none))) else (none)) else (none)) else (none)) else (none)) = some r := by first | (rw [hy187]; with_reducible exact H) | (have H2_ := (Option.bind_some _ _).symm.trans H; rw [hy187]; with_reducible exact H2_) | (have H2_ := (Option.bind_some _ _).symm.trans H; with_reducible exact H2_) | with_reducible exact H | (rw [hy187]; exact H) | exact H
                  have Ny187 := Aside0.mk hy187
                  clear hy187
                  by_cases c72 : 0 ≤ t183
                  · rw [if_pos c72] at H
                    have c72b0 : decide (0 ≤ t183) = true := decide_eq_true c72
                    clear c72
                    by_cases c73 : t183 < (y187.length : Int)
                    · rw [if_pos c73] at H
                      have c73b0 : decide (t183 < (y187.length : Int)) = true := decide_eq_true c73
                      clear c73
                      by_cases c74 : 0 ≤ t182
                      · rw [if_pos c74] at H
                        have c74b0 : decide (0 ≤ t182) = true := decide_eq_true c74
                        clear c74
                        by_cases c75 : t182 < (y187.length : Int)
                        · rw [if_pos c75] at H
                          have c75b0 : decide (t182 < (y187.length : Int)) = true := decide_eq_true c75
                          clear c75
                          obtain ⟨y192, hy192⟩ : ∃ y_ : List (S25), y_ = (y187.set (t182 : Int).toNat (⟨(rd_T25 y187 t183).f0, (⟨(rd_T25 y187 t183).f1.f0, (rd_T25 y187 t183).f1.f1, (rd_T25 y187 t183).f1.f2⟩ : S23)⟩ : S25)) := ⟨_, rfl⟩
                          replace H : ((some (([] : List (S25)) : List (S25))).bind fun y194 => (if y194.length + t165.length < 2932031007402 then ((some (y194 ++ t165 : List (S25))).bind fun y197 => (if 0 ≤ (wrap64 ((t165.length : Int) - 1)) then (if (wrap64 ((t165.length : Int) - 1)) < (t165.length : Int) then (if y197.length < 2932031007402 then ((some (([] : List (S25)) : List (S25))).bind fun y204 => (if y204.length + t165.length < 2932031007402 then ((some (y204 ++ t165 : List (S25))).bind fun y207 => (if t182 < (y207.length : Int) then ((tuple_Right.f kj10 (y192.set (t183 : Int).toNat (⟨(rd_T25 y187 t182).f0, (⟨(rd_T25 y187 t182).f1.f0, (rd_T25 y187 t182).f1.f1, (rd_T25 y187 t182).f1.f2⟩ : S23)⟩ : S25))).bind fun t211 => (if (t211 == (t182 == t183)) = true then ((tuple_Right.f kj10 (y197 ++ [(⟨(rd_T25 t165 (wrap64 ((t165.length : Int) - 1))).f0, (⟨(rd_T25 t165 (wrap64 ((t165.length : Int) - 1))).f1.f0, (rd_T25 t165 (wrap64 ((t165.length : Int) - 1))).f1.f1, (rd_T25 t165 (wrap64 ((t165.length : Int) - 1))).f1.f2⟩ : S23)⟩ : S25)])).bind fun t212 => (if t212 = true then (some false) else ((tuple_Right.f kj10 (y207.set (t182 : Int).toNat (⟨(rd_T25 y207 t182).f0, (⟨false, 1, (⟨#[120]⟩ : ByteArray)⟩ : S23)⟩ : S25))).bind fun t213 => (if t213 = true then (some false) else ((broadsidelaw3_TupleRuns.f kj10).bind fun t214 => (some t214)))))) else (some false))) else (none))) else (none))) else (none)) else (none)) else (none))) else (none))) = some r := by first | (rw [hy192]; with_reducible exact H) | (have H2_ := (Option.bind_some _ _).symm.trans H; rw [hy192]; with_reducible exact H2_) | (have H2_ := (Option.bind_some _ _).symm.trans H; with_reducible exact H2_) | with_reducible exact H | (rw [hy192]; exact H) | exact H
                          have Ny192 := Aside0.mk hy192
                          clear hy192
                          obtain ⟨y193, hy193⟩ : ∃ y_ : List (S25), y_ = (y192.set (t183 : Int).toNat (⟨(rd_T25 y187 t182).f0, (⟨(rd_T25 y187 t182).f1.f0, (rd_T25 y187 t182).f1.f1, (rd_T25 y187 t182).f1.f2⟩ : S23)⟩ : S25)) := ⟨_, rfl⟩
                          replace H : ((some (([] : List (S25)) : List (S25))).bind fun y194 => (if y194.length + t165.length < 2932031007402 then ((some (y194 ++ t165 : List (S25))).bind fun y197 => (if 0 ≤ (wrap64 ((t165.length : Int) - 1)) then (if (wrap64 ((t165.length : Int) - 1)) < (t165.length : Int) then (if y197.length < 2932031007402 then ((some (([] : List (S25)) : List (S25))).bind fun y204 => (if y204.length + t165.length < 2932031007402 then ((some (y204 ++ t165 : List (S25))).bind fun y207 => (if t182 < (y207.length : Int) then ((tuple_Right.f kj10 y193).bind fun t211 => (if (t211 == (t182 == t183)) = true then ((tuple_Right.f kj10 (y197 ++ [(⟨(rd_T25 t165 (wrap64 ((t165.length : Int) - 1))).f0, (⟨(rd_T25 t165 (wrap64 ((t165.length : Int) - 1))).f1.f0, (rd_T25 t165 (wrap64 ((t165.length : Int) - 1))).f1.f1, (rd_T25 t165 (wrap64 ((t165.length : Int) - 1))).f1.f2⟩ : S23)⟩ : S25)])).bind fun t212 => (if t212 = true then (some false) else ((tuple_Right.f kj10 (y207.set (t182 : Int).toNat (⟨(rd_T25 y207 t182).f0, (⟨false, 1, (⟨#[120]⟩ : ByteArray)⟩ : S23)⟩ : S25))).bind fun t213 => (if t213 = true then (some false) else ((broadsidelaw3_TupleRuns.f kj10).bind fun t214 => (some t214)))))) else (some false))) else (none))) else (none))) else (none)) else (none)) else (none))) else (none))) = some r := by first | (rw [hy193]; with_reducible exact H) | (have H2_ := (Option.bind_some _ _).symm.trans H; rw [hy193]; with_reducible exact H2_) | (have H2_ := (Option.bind_some _ _).symm.trans H; with_reducible exact H2_) | with_reducible exact H | (rw [hy193]; exact H) | exact H
                          have Ny193 := Aside0.mk hy193
                          clear hy193
                          obtain ⟨y194, hy194⟩ : ∃ y_ : List (S25), y_ = (([] : List (S25))) := ⟨_, rfl⟩
                          replace H : (if y194.length + t165.length < 2932031007402 then ((some (y194 ++ t165 : List (S25))).bind fun y197 => (if 0 ≤ (wrap64 ((t165.length : Int) - 1)) then (if (wrap64 ((t165.length : Int) - 1)) < (t165.length : Int) then (if y197.length < 2932031007402 then ((some (([] : List (S25)) : List (S25))).bind fun y204 => (if y204.length + t165.length < 2932031007402 then ((some (y204 ++ t165 : List (S25))).bind fun y207 => (if t182 < (y207.length : Int) then ((tuple_Right.f kj10 y193).bind fun t211 => (if (t211 == (t182 == t183)) = true then ((tuple_Right.f kj10 (y197 ++ [(⟨(rd_T25 t165 (wrap64 ((t165.length : Int) - 1))).f0, (⟨(rd_T25 t165 (wrap64 ((t165.length : Int) - 1))).f1.f0, (rd_T25 t165 (wrap64 ((t165.length : Int) - 1))).f1.f1, (rd_T25 t165 (wrap64 ((t165.length : Int) - 1))).f1.f2⟩ : S23)⟩ : S25)])).bind fun t212 => (if t212 = true then (some false) else ((tuple_Right.f kj10 (y207.set (t182 : Int).toNat (⟨(rd_T25 y207 t182).f0, (⟨false, 1, (⟨#[120]⟩ : ByteArray)⟩ : S23)⟩ : S25))).bind fun t213 => (if t213 = true then (some false) else ((broadsidelaw3_TupleRuns.f kj10).bind fun t214 => (some t214)))))) else (some false))) else (none))) else (none))) else (none)) else (none)) else (none))) else (none)) = some r := by first | (rw [hy194]; with_reducible exact H) | (have H2_ := (Option.bind_some _ _).symm.trans H; rw [hy194]; with_reducible exact H2_) | (have H2_ := (Option.bind_some _ _).symm.trans H; with_reducible exact H2_) | with_reducible exact H | (rw [hy194]; exact H) | exact H
                          have Ny194 := Aside0.mk hy194
                          clear hy194
                          by_cases c78 : y194.length + t165.length < 2932031007402
                          · rw [if_pos c78] at H
                            have LMc78 := Aside0.mk c78
                            clear c78
                            obtain ⟨y197, hy197⟩ : ∃ y_ : List (S25), y_ = (y194 ++ t165) := ⟨_, rfl⟩
                            replace H : (if 0 ≤ (wrap64 ((t165.length : Int) - 1)) then (if (wrap64 ((t165.length : Int) - 1)) < (t165.length : Int) then (if y197.length < 2932031007402 then ((some (([] : List (S25)) : List (S25))).bind fun y204 => (if y204.length + t165.length < 2932031007402 then ((some (y204 ++ t165 : List (S25))).bind fun y207 => (if t182 < (y207.length : Int) then ((tuple_Right.f kj10 y193).bind fun t211 => (if (t211 == (t182 == t183)) = true then ((tuple_Right.f kj10 (y197 ++ [(⟨(rd_T25 t165 (wrap64 ((t165.length : Int) - 1))).f0, (⟨(rd_T25 t165 (wrap64 ((t165.length : Int) - 1))).f1.f0, (rd_T25 t165 (wrap64 ((t165.length : Int) - 1))).f1.f1, (rd_T25 t165 (wrap64 ((t165.length : Int) - 1))).f1.f2⟩ : S23)⟩ : S25)])).bind fun t212 => (if t212 = true then (some false) else ((tuple_Right.f kj10 (y207.set (t182 : Int).toNat (⟨(rd_T25 y207 t182).f0, (⟨false, 1, (⟨#[120]⟩ : ByteArray)⟩ : S23)⟩ : S25))).bind fun t213 => (if t213 = true then (some false) else ((broadsidelaw3_TupleRuns.f kj10).bind fun t214 => (some t214)))))) else (some false))) else (none))) else (none))) else (none)) else (none)) else (none)) = some r := by first | (rw [hy197]; with_reducible exact H) | (have H2_ := (Option.bind_some _ _).symm.trans H; rw [hy197]; with_reducible exact H2_) | (have H2_ := (Option.bind_some _ _).symm.trans H; with_reducible exact H2_) | with_reducible exact H | (rw [hy197]; exact H) | exact H
                            have Ny197 := Aside0.mk hy197
                            clear hy197
                            obtain ⟨ji79, hji79⟩ : ∃ j_ : Int, (wrap64 ((t165.length : Int) - 1)) = j_ := ⟨_, rfl⟩
                            replace H : (if 0 ≤ (ji79) then (if (ji79) < (t165.length : Int) then (if y197.length < 2932031007402 then ((some (([] : List (S25)) : List (S25))).bind fun y204 => (if y204.length + t165.length < 2932031007402 then ((some (y204 ++ t165 : List (S25))).bind fun y207 => (if t182 < (y207.length : Int) then ((tuple_Right.f kj10 y193).bind fun t211 => (if (t211 == (t182 == t183)) = true then ((tuple_Right.f kj10 (y197 ++ [(⟨(rd_T25 t165 (ji79)).f0, (⟨(rd_T25 t165 (ji79)).f1.f0, (rd_T25 t165 (ji79)).f1.f1, (rd_T25 t165 (ji79)).f1.f2⟩ : S23)⟩ : S25)])).bind fun t212 => (if t212 = true then (some false) else ((tuple_Right.f kj10 (y207.set (t182 : Int).toNat (⟨(rd_T25 y207 t182).f0, (⟨false, 1, (⟨#[120]⟩ : ByteArray)⟩ : S23)⟩ : S25))).bind fun t213 => (if t213 = true then (some false) else ((broadsidelaw3_TupleRuns.f kj10).bind fun t214 => (some t214)))))) else (some false))) else (none))) else (none))) else (none)) else (none)) else (none)) = some r := by first | (rw [hji79] at H; exact H) | (simp only [hji79] at H ⊢; exact H)
                            (try rw [hji79] at A69)
                            (try rw [hji79] at A70)
                            have hji79w : (IntKind.i64.wrap ((t165.length : Int) - 1)) = ji79 := (i64_w _).trans hji79
                            by_cases c80 : 0 ≤ (ji79)
                            · rw [if_pos c80] at H
                              have c80b0 : decide (0 ≤ (ji79)) = true := decide_eq_true c80
                              clear c80
                              by_cases c81 : (ji79) < (t165.length : Int)
                              · rw [if_pos c81] at H
                                have c81b0 : decide ((ji79) < (t165.length : Int)) = true := decide_eq_true c81
                                clear c81
                                by_cases c82 : y197.length < 2932031007402
                                · rw [if_pos c82] at H
                                  have LMc82 := Aside0.mk c82
                                  clear c82
                                  obtain ⟨y201, hy201⟩ : ∃ y_ : List (S25), y_ = (y197 ++ [(⟨(rd_T25 t165 (ji79)).f0, (⟨(rd_T25 t165 (ji79)).f1.f0, (rd_T25 t165 (ji79)).f1.f1, (rd_T25 t165 (ji79)).f1.f2⟩ : S23)⟩ : S25)]) := ⟨_, rfl⟩
                                  replace H : ((some (([] : List (S25)) : List (S25))).bind fun y204 => (if y204.length + t165.length < 2932031007402 then ((some (y204 ++ t165 : List (S25))).bind fun y207 => (if t182 < (y207.length : Int) then ((tuple_Right.f kj10 y193).bind fun t211 => (if (t211 == (t182 == t183)) = true then ((tuple_Right.f kj10 y201).bind fun t212 => (if t212 = true then (some false) else ((tuple_Right.f kj10 (y207.set (t182 : Int).toNat (⟨(rd_T25 y207 t182).f0, (⟨false, 1, (⟨#[120]⟩ : ByteArray)⟩ : S23)⟩ : S25))).bind fun t213 => (if t213 = true then (some false) else ((broadsidelaw3_TupleRuns.f kj10).bind fun t214 => (some t214)))))) else (some false))) else (none))) else (none))) = some r := by first | (rw [hy201]; with_reducible exact H) | (have H2_ := (Option.bind_some _ _).symm.trans H; rw [hy201]; with_reducible exact H2_) | (have H2_ := (Option.bind_some _ _).symm.trans H; with_reducible exact H2_) | with_reducible exact H | (rw [hy201]; exact H) | exact H
                                  have Ny201 := Aside0.mk hy201
                                  clear hy201
                                  obtain ⟨y204, hy204⟩ : ∃ y_ : List (S25), y_ = (([] : List (S25))) := ⟨_, rfl⟩
                                  replace H : (if y204.length + t165.length < 2932031007402 then ((some (y204 ++ t165 : List (S25))).bind fun y207 => (if t182 < (y207.length : Int) then ((tuple_Right.f kj10 y193).bind fun t211 => (if (t211 == (t182 == t183)) = true then ((tuple_Right.f kj10 y201).bind fun t212 => (if t212 = true then (some false) else ((tuple_Right.f kj10 (y207.set (t182 : Int).toNat (⟨(rd_T25 y207 t182).f0, (⟨false, 1, (⟨#[120]⟩ : ByteArray)⟩ : S23)⟩ : S25))).bind fun t213 => (if t213 = true then (some false) else ((broadsidelaw3_TupleRuns.f kj10).bind fun t214 => (some t214)))))) else (some false))) else (none))) else (none)) = some r := by first | (rw [hy204]; with_reducible exact H) | (have H2_ := (Option.bind_some _ _).symm.trans H; rw [hy204]; with_reducible exact H2_) | (have H2_ := (Option.bind_some _ _).symm.trans H; with_reducible exact H2_) | with_reducible exact H | (rw [hy204]; exact H) | exact H
                                  have Ny204 := Aside0.mk hy204
                                  clear hy204
                                  by_cases c83 : y204.length + t165.length < 2932031007402
                                  · rw [if_pos c83] at H
                                    have LMc83 := Aside0.mk c83
                                    clear c83
                                    obtain ⟨y207, hy207⟩ : ∃ y_ : List (S25), y_ = (y204 ++ t165) := ⟨_, rfl⟩
                                    replace H : (if t182 < (y207.length : Int) then ((tuple_Right.f kj10 y193).bind fun t211 => (if (t211 == (t182 == t183)) = true then ((tuple_Right.f kj10 y201).bind fun t212 => (if t212 = true then (some false) else ((tuple_Right.f kj10 (y207.set (t182 : Int).toNat (⟨(rd_T25 y207 t182).f0, (⟨false, 1, (⟨#[120]⟩ : ByteArray)⟩ : S23)⟩ : S25))).bind fun t213 => (if t213 = true then (some false) else ((broadsidelaw3_TupleRuns.f kj10).bind fun t214 => (some t214)))))) else (some false))) else (none)) = some r := by first | (rw [hy207]; with_reducible exact H) | (have H2_ := (Option.bind_some _ _).symm.trans H; rw [hy207]; with_reducible exact H2_) | (have H2_ := (Option.bind_some _ _).symm.trans H; with_reducible exact H2_) | with_reducible exact H | (rw [hy207]; exact H) | exact H
                                    have Ny207 := Aside0.mk hy207
                                    clear hy207
                                    by_cases c84 : t182 < (y207.length : Int)
                                    · rw [if_pos c84] at H
                                      have c84b0 : decide (t182 < (y207.length : Int)) = true := decide_eq_true c84
                                      clear c84
                                      obtain ⟨y210, hy210⟩ : ∃ y_ : List (S25), y_ = (y207.set (t182 : Int).toNat (⟨(rd_T25 y207 t182).f0, (⟨false, 1, (⟨#[120]⟩ : ByteArray)⟩ : S23)⟩ : S25)) := ⟨_, rfl⟩
                                      replace H : ((tuple_Right.f kj10 y193).bind fun t211 => (if (t211 == (t182 == t183)) = true then ((tuple_Right.f kj10 y201).bind fun t212 => (if t212 = true then (some false) else ((tuple_Right.f kj10 y210).bind fun t213 => (if t213 = true then (some false) else ((broadsidelaw3_TupleRuns.f kj10).bind fun t214 => (some t214)))))) else (some false))) = some r := by first | (rw [hy210]; with_reducible exact H) | (have H2_ := (Option.bind_some _ _).symm.trans H; rw [hy210]; with_reducible exact H2_) | (have H2_ := (Option.bind_some _ _).symm.trans H; with_reducible exact H2_) | with_reducible exact H | (rw [hy210]; exact H) | exact H
                                      have Ny210 := Aside0.mk hy210
                                      clear hy210
                                      replace H := Option.bind_eq_some_iff.mp H
                                      obtain ⟨t211, A860, H⟩ := H
                                      replace H : (if (t211 == (t182 == t183)) = true then ((tuple_Right.f kj10 y201).bind fun t212 => (if t212 = true then (some false) else ((tuple_Right.f kj10 y210).bind fun t213 => (if t213 = true then (some false) else ((broadsidelaw3_TupleRuns.f kj10).bind fun t214 => (some t214)))))) else (some false)) = some r := H
                                      have A86 := Aside0.mk A860
                                      clear A860
                                      by_cases c87 : (t211 == (t182 == t183)) = true
                                      · rw [if_pos c87] at H
                                        have c87b0 : (t211 == (t182 == t183)) = true := c87
                                        (try (have c87b1 : decide (t211 = (t182 == t183)) = true := by simpa using c87))
                                        (try (have c87b2 : (t211 == (t182 == t183)) = true := by simpa using c87))
                                        clear c87
                                        replace H := Option.bind_eq_some_iff.mp H
                                        obtain ⟨t212, A880, H⟩ := H
                                        replace H : (if t212 = true then (some false) else ((tuple_Right.f kj10 y210).bind fun t213 => (if t213 = true then (some false) else ((broadsidelaw3_TupleRuns.f kj10).bind fun t214 => (some t214))))) = some r := H
                                        have A88 := Aside0.mk A880
                                        clear A880
                                        by_cases c89 : t212 = true
                                        · subst c89
                                          have H1 : (some false) = some r := by rw [if_pos rfl] at H; exact H
                                          exact absurd ((Option.some.inj H1).trans HRT.out) (by decide)
                                        · replace c89 := Bool.eq_false_iff.mpr c89
                                          subst c89
                                          have H1 : ((tuple_Right.f kj10 y210).bind fun t213 => (if t213 = true then (some false) else ((broadsidelaw3_TupleRuns.f kj10).bind fun t214 => (some t214)))) = some r := by rw [if_neg (show ¬ (false = true) by decide)] at H; exact H
                                          clear H
                                          have H := H1
                                          clear H1
                                          replace H := Option.bind_eq_some_iff.mp H
                                          obtain ⟨t213, A1100, H⟩ := H
                                          replace H : (if t213 = true then (some false) else ((broadsidelaw3_TupleRuns.f kj10).bind fun t214 => (some t214))) = some r := H
                                          have A110 := Aside0.mk A1100
                                          clear A1100
                                          by_cases c111 : t213 = true
                                          · subst c111
                                            have H1 : (some false) = some r := by rw [if_pos rfl] at H; exact H
                                            exact absurd ((Option.some.inj H1).trans HRT.out) (by decide)
                                          · replace c111 := Bool.eq_false_iff.mpr c111
                                            subst c111
                                            have H1 : ((broadsidelaw3_TupleRuns.f kj10).bind fun t214 => (some t214)) = some r := by rw [if_neg (show ¬ (false = true) by decide)] at H; exact H
                                            clear H
                                            have H := H1
                                            clear H1
                                            replace H := Option.bind_eq_some_iff.mp H
                                            obtain ⟨t214, A1330, H⟩ := H
                                            replace H : (some t214) = some r := H
                                            have A133 := Aside0.mk A1330
                                            clear A1330
                                            obtain rfl := Option.some.inj H
                                            obtain ⟨Ao134, co134, eo134⟩ := Kd.R_slice HO_12.out
                                            subst eo134
                                            try go_wp2_with (first | ((with_reducible refine gate_callee (f := 12) rfl ?_); refine goesL_ (some 65) rfl rfl Tryz.func12 (by kernel_rfl) rfl #[.int .i64 a3, .int .i64 0, .int .i64 ji79] rfl (by (try simp only [List.map_toArray, List.map_cons, List.map_nil]); first | done | (simp only [hji79]; rfl) | rfl | (simp only [List.length_drop, List.length_take]; rfl)) ?_; (with_reducible refine (broadsidebook_Within.calls a3 0 ji79 t182 _ A69.out).mono ?_); rintro e w' ⟨rfl, ⟨nd, rfl⟩⟩; refine ⟨_, rfl, ?_⟩; (try (rw [drewN_self wc]; generalize hq_ : World.drewN wc _ = wc; have n0_ : Aside0 (Kd.R k25 25 wc w.heap.size (fun _ => True) (.slice Ao134 t165.length co134) t165) := ⟨by rw [← hq_]; exact (by (with_reducible repeat (first | apply Kd.R_alloc | apply Kd.R_drewN | apply Kd.R_drew)); exact HO_12.out)⟩; have n1_ : Aside0 (wc.heap[gb163]? = some (.cells #[.slice A0_0 l0_0.length c0_0, .slice A0_1 l0_1.length c0_1] 35 (0, 0))) := ⟨by rw [← hq_]; exact (by (with_reducible repeat (first | refine blk_drewN ?_ _ | refine blk_drew ?_ | refine blk_alloc ?_ _)); exact BK163.out)⟩; have n2_ : Aside0 (Below w.heap.size w wc) := ⟨by rw [← hq_]; exact (by repeat (first | (with_reducible first | exact HB.out | apply below_alloc | apply pw_below_drewN | apply below_drew1 | refine below_set ?_ GE163.out) | exact HB.out))⟩; clear HO_12 BK163 HB hq_; have HO_12 := n0_; have BK163 := n1_; have HB := n2_; clear n0_ n1_ n2_))) | ((with_reducible refine gate_callee (f := 12) rfl ?_); refine goesL_ (some 70) rfl rfl Tryz.func12 (by kernel_rfl) rfl #[.int .i64 a4, .int .i64 0, .int .i64 ji79] rfl (by (try simp only [List.map_toArray, List.map_cons, List.map_nil]); first | done | (simp only [hji79]; rfl) | rfl | (simp only [List.length_drop, List.length_take]; rfl)) ?_; (with_reducible refine (broadsidebook_Within.calls a4 0 ji79 t183 _ A70.out).mono ?_); rintro e w' ⟨rfl, ⟨nd, rfl⟩⟩; refine ⟨_, rfl, ?_⟩; (try (rw [drewN_self wc]; generalize hq_ : World.drewN wc _ = wc; have n0_ : Aside0 (Kd.R k25 25 wc w.heap.size (fun _ => True) (.slice Ao134 t165.length co134) t165) := ⟨by rw [← hq_]; exact (by (with_reducible repeat (first | apply Kd.R_alloc | apply Kd.R_drewN | apply Kd.R_drew)); exact HO_12.out)⟩; have n1_ : Aside0 (wc.heap[gb163]? = some (.cells #[.slice A0_0 l0_0.length c0_0, .slice A0_1 l0_1.length c0_1] 35 (0, 0))) := ⟨by rw [← hq_]; exact (by (with_reducible repeat (first | refine blk_drewN ?_ _ | refine blk_drew ?_ | refine blk_alloc ?_ _)); exact BK163.out)⟩; have n2_ : Aside0 (Below w.heap.size w wc) := ⟨by rw [← hq_]; exact (by repeat (first | (with_reducible first | exact HB.out | apply below_alloc | apply pw_below_drewN | apply below_drew1 | refine below_set ?_ GE163.out) | exact HB.out))⟩; clear HO_12 BK163 HB hq_; have HO_12 := n0_; have BK163 := n1_; have HB := n2_; clear n0_ n1_ n2_))) | ((with_reducible refine gate_dst (N := 71) rfl ?_); (try (refine gate_guard (by rfl) ?_; dsimp only)); refine Kd.R_lit k25 _ 25 ?hg (N := 71) ?hd (xs := ([] : List (S25))) (inner := []) (ok := fun _ => True) (okp := fun _ => True) ?hr ?hp (fun _ hk => hk) trivial (Below.refl _ _) (Nat.le_refl _) (by simp) ?_; (case hd => rfl); (case hg => rfl); (case hr => first | (go_simp; done) | (go_simp; rfl)); (case hp => exact (Reps.none _ _)); intro v185 w135 ho136 hb hg_ hnew_; clear hg_ hnew_; (first | rw [← Ny184.out] at ho136 | (simp only [Int.reduceToNat] at ho136; rw [← Ny184.out] at ho136)); have n0_ := Aside0.mk (Kd.R_elder' (by (with_reducible repeat (first | apply Kd.R_alloc | apply Kd.R_drewN | apply Kd.R_drew)); exact HO_12.out) (Kd.R_base ho136) hb); have n1_ := Aside0.mk (Kd.R_lower (Kd.R_new' ho136 (Kd.R_lt (by (with_reducible repeat (first | apply Kd.R_alloc | apply Kd.R_drewN | apply Kd.R_drew)); exact HO_12.out))) (below_size (by repeat (first | (with_reducible first | exact HB.out | apply below_alloc | apply pw_below_drewN | apply below_drew1 | refine below_set ?_ GE163.out) | exact HB.out)))); have n2_ := Aside0.mk (blk_below (g := gb163) (o := .cells #[.slice A0_0 l0_0.length c0_0, .slice A0_1 l0_1.length c0_1] 35 (0, 0)) (by (with_reducible repeat (first | refine blk_drewN ?_ _ | refine blk_drew ?_ | refine blk_alloc ?_ _)); exact BK163.out) hb); have n3_ := Aside0.mk (below_step (by repeat (first | (with_reducible first | exact HB.out | apply below_alloc | apply pw_below_drewN | apply below_drew1 | refine below_set ?_ GE163.out) | exact HB.out)) hb); clear HO_12; clear BK163; clear HB; have HO_12 := n0_; have HO186 := n1_; have BK163 := n2_; have HB := n3_; clear n0_ n1_ n2_ n3_; clear hb ho136) | ((with_reducible refine gate_builtin (b := .append) (xs := #[.tmp 71, .tmp 72]) rfl ?_); (try (refine gate_guard (by rfl) ?_; dsimp only)); at_builtin; refine Kd.R_append_rows k25 (w0 := w) w.heap.size rfl (.tmp 71) (.tmp 72) 26 25 (.agg #[(.string ⟨#[]⟩), (.bool false), (.int .i64 0), (.string ⟨#[]⟩)]) 48 rfl Tryz.underlying26 info25 rfl (by decide) (by omega) v185 y184 t165 _ _ _ (fun k_ => some k_ ≠ (.slice Ao134 t165.length co134 : Value).ownBlock) (fun _ => False) rfl rfl ?aO ?aR (fun _ _ h => h) (fun _ h => h.elim) ?aF ?aB ?aS ?aL ?_; (case aR => repeat (first | exact (Kd.R_reads' HO_12.out).2.2 | (with_reducible refine Kd.C_alloc ?_ _) | (with_reducible refine Kd.C_drewN ?_ _) | (with_reducible refine Kd.C_drew ?_))); (case aB => exact (by repeat (first | (with_reducible first | exact HB.out | apply below_alloc | apply pw_below_drewN | apply below_drew1 | refine below_set ?_ GE163.out) | exact HB.out))); (case aF => exact (fun k_ hk => Kd.fresh' (Kd.R_lt (by (with_reducible repeat (first | apply Kd.R_alloc | apply Kd.R_drewN | apply Kd.R_drew)); exact HO_12.out)) k_ hk)); (case aO => exact (by (with_reducible repeat (first | apply Kd.R_alloc | apply Kd.R_drewN | apply Kd.R_drew)); exact Kd.R_mono HO186.out (fun _ hk => hk.2))); (case aS => exact (below_size (by repeat (first | (with_reducible first | exact HB.out | apply below_alloc | apply pw_below_drewN | apply below_drew1 | refine below_set ?_ GE163.out) | exact HB.out)))); (case aL => have := LMc71.out; omega); intro v188 w137 ho hb hg hat; rw [← Ny187.out] at ho; have n0_ := Aside0.mk (Kd.R_after (ok := (fun _ => True)) (by (with_reducible repeat (first | apply Kd.R_alloc | apply Kd.R_drewN | apply Kd.R_drew)); exact HO_12.out) hg hat); have n1_ := Aside0.mk (blk_grown (g := gb163) (o := .cells #[.slice A0_0 l0_0.length c0_0, .slice A0_1 l0_1.length c0_1] 35 (0, 0)) (by (with_reducible repeat (first | refine blk_drewN ?_ _ | refine blk_drew ?_ | refine blk_alloc ?_ _)); exact BK163.out) hg (Kd.R_ne HO186.out BK163.out (by decide))); have n2_ := Aside0.mk (hb); have n3_ := Aside0.mk (ho); clear HO_12; clear BK163; clear HB; clear HO186; have HO_12 := n0_; have BK163 := n1_; have HB := n2_; have HO189 := n3_; clear n0_ n1_ n2_ n3_; clear ho hb hg hat))
                                            have n0_ := Aside0.mk (Kd.R_drew HO_12.out)
                                            have n1_ := Aside0.mk (Kd.R_drew HO189.out)
                                            have n2_ := Aside0.mk (blk_drew BK163.out)
                                            have n3_ := Aside0.mk (below_drew1 HB.out)
                                            clear HO_12
                                            clear HO189
                                            clear BK163
                                            clear HB
                                            have HO_12 := n0_
                                            have HO189 := n1_
                                            have BK163 := n2_
                                            have HB := n3_
                                            clear n0_ n1_ n2_ n3_
                                            obtain ⟨Ao139, co139, eo139⟩ := Kd.R_slice HO189.out
                                            (first | subst eo139 | (injection eo139 with f1_ f2_ f3_; have f4_ := f1_.symm; have f5_ := f3_.symm; clear f1_ f2_ f3_; subst f4_; subst f5_))
                                            have p190 : 0 ≤ (t183 : Int) := of_decide_eq_true (by first | (with_reducible assumption) | assumption)
                                            have q190 : t183 < (y187.length : Int) := of_decide_eq_true (by first | (with_reducible assumption) | assumption)
                                            obtain ⟨ad190, e190, hx190_0, hx190_1, hx190_2, hx190_3⟩ := at_T25 (Kd.R_reads' HO189.out).2.2 t183 p190 q190
                                            cases e190
                                            replace p190 := eq_true p190
                                            replace q190 := eq_true q190
                                            have p191 : 0 ≤ (t182 : Int) := of_decide_eq_true (by first | (with_reducible assumption) | assumption)
                                            have q191 : t182 < (y187.length : Int) := of_decide_eq_true (by first | (with_reducible assumption) | assumption)
                                            obtain ⟨ad191, e191, hx191_0, hx191_1, hx191_2, hx191_3⟩ := at_T25 (Kd.R_reads' HO189.out).2.2 t182 p191 q191
                                            obtain rfl : ad190 = ad191 := (by injection e191)
                                            replace p191 := eq_true p191
                                            replace q191 := eq_true q191
                                            have p76 : 0 ≤ (t182 : Int) := of_decide_eq_true (by first | (with_reducible assumption) | assumption)
                                            have q76 : (t182 : Int) < ((y187.length : Int) : Int) := of_decide_eq_true (by first | (with_reducible assumption) | assumption)
                                            obtain ⟨go76, co76, eo76, gb76, gl76, cl76, HG76⟩ := Kd.R_form HO189.out (by omega)
                                            (first | cases eo76 | (injection eo76 with ea_ en_ ec_; (first | subst ea_ | (injection ea_ with ea_; subst ea_)); subst ec_; clear en_))
                                            have GB76 := Aside0.mk gb76
                                            have GG76 := Aside0.mk HG76
                                            clear gb76 gl76 HG76
                                            (first | simp only [add_plain] at hx190_0 | skip)
                                            (first | simp only [add_plain] at hx190_1 | skip)
                                            (first | simp only [add_plain] at hx190_2 | skip)
                                            (first | simp only [add_plain] at hx190_3 | skip)
                                            (first | simp only [add_plain] at hx191_0 | skip)
                                            (first | simp only [add_plain] at hx191_1 | skip)
                                            (first | simp only [add_plain] at hx191_2 | skip)
                                            (first | simp only [add_plain] at hx191_3 | skip)
                                            obtain ⟨ce76, hcl76, hM76, hcc76, hfr76⟩ := Kd.R_elem HO189.out z25 (t182 : Int) p76 q76
                                            obtain rfl := k25_openM hM76
                                            have hx76_0 : World.cell? _ ⟨go76, (t182 : Int).toNat * 4, none⟩ = some (.string ((rd_T25 y187 t182).f0)) := hcc76 0 _ rfl
                                            have hx76_1 : World.cell? _ ⟨go76, (t182 : Int).toNat * 4 + 1, none⟩ = some (.bool ((rd_T25 y187 t182).f1.f0)) := hcc76 1 _ rfl
                                            have hx76_2 : World.cell? _ ⟨go76, (t182 : Int).toNat * 4 + 2, none⟩ = some (.int .i64 ((rd_T25 y187 t182).f1.f1)) := hcc76 2 _ rfl
                                            have hx76_3 : World.cell? _ ⟨go76, (t182 : Int).toNat * 4 + 3, none⟩ = some (.string ((rd_T25 y187 t182).f1.f2)) := hcc76 3 _ rfl
                                            have hf76_0 : World.frozen? _ ⟨go76, (t182 : Int).toNat * 4, none⟩ = false := hfr76 0
                                            have hf76_1 : World.frozen? _ ⟨go76, (t182 : Int).toNat * 4 + 1, none⟩ = false := hfr76 1
                                            have hf76_2 : World.frozen? _ ⟨go76, (t182 : Int).toNat * 4 + 2, none⟩ = false := hfr76 2
                                            have hf76_3 : World.frozen? _ ⟨go76, (t182 : Int).toNat * 4 + 3, none⟩ = false := hfr76 3
                                            clear hcl76 hcc76 hfr76 hM76
                                            replace p76 := eq_true p76
                                            replace q76 := eq_true q76
                                            obtain ⟨ce140, hcl140, hM140, hcc140, hfr140⟩ := Kd.R_elem HO189.out z25 (t182 : Int) (of_decide_eq_true (by first | (with_reducible assumption) | assumption)) (by have h_ : (t182 : Int) < ((y187.length : Int) : Int) := of_decide_eq_true (by first | (with_reducible assumption) | assumption); first | exact h_ | (have e_ := (Kd.R_reads' HO189.out).1; omega) | simpa using h_)
                                            obtain rfl := k25_openM hM140
                                            have HP140 := (Kd.R_seg HO189.out (t182 : Int) (of_decide_eq_true (by first | (with_reducible assumption) | assumption)) (by have h_ : (t182 : Int) < ((y187.length : Int) : Int) := of_decide_eq_true (by first | (with_reducible assumption) | assumption); first | exact h_ | (have e_ := (Kd.R_reads' HO189.out).1; omega) | simpa using h_) (seg := [.string ((rd_T25 y187 t183).f0), .bool ((rd_T25 y187 t183).f1.f0), .int .i64 ((rd_T25 y187 t183).f1.f1), .string ((rd_T25 y187 t183).f1.f2)]) (j := 0) hcl140 hcc140 (show 4 ≤ 4 from by decide) (x' := (⟨(rd_T25 y187 t183).f0, (⟨(rd_T25 y187 t183).f1.f0, (rd_T25 y187 t183).f1.f1, (rd_T25 y187 t183).f1.f2⟩ : S23)⟩ : S25)) (k25_mkM _ _ _ (⟨(rd_T25 y187 t183).f0, (⟨(rd_T25 y187 t183).f1.f0, (rd_T25 y187 t183).f1.f1, (rd_T25 y187 t183).f1.f2⟩ : S23)⟩ : S25) ) (fun _ hk => hk)).1
                                            rw [← Ny192.out] at HP140
                                            have HQ140 := Aside0.mk HP140
                                            clear hcl140 hcc140 hfr140 hM140 HP140
                                            have p77 : 0 ≤ (t183 : Int) := of_decide_eq_true (by first | (with_reducible assumption) | assumption)
                                            have q77 : (t183 : Int) < ((y187.length : Int) : Int) := of_decide_eq_true (by first | (with_reducible assumption) | assumption)
                                            obtain ⟨ce77, hcl77, hM77, hcc77, hfr77⟩ := Kd.R_elem HQ140.out z25 (t183 : Int) p77 q77
                                            obtain rfl := k25_openM hM77
                                            have hx77_0 : World.cell? _ ⟨go76, (t183 : Int).toNat * 4, none⟩ = some (.string ((rd_T25 y192 t183).f0)) := hcc77 0 _ rfl
                                            have hx77_1 : World.cell? _ ⟨go76, (t183 : Int).toNat * 4 + 1, none⟩ = some (.bool ((rd_T25 y192 t183).f1.f0)) := hcc77 1 _ rfl
                                            have hx77_2 : World.cell? _ ⟨go76, (t183 : Int).toNat * 4 + 2, none⟩ = some (.int .i64 ((rd_T25 y192 t183).f1.f1)) := hcc77 2 _ rfl
                                            have hx77_3 : World.cell? _ ⟨go76, (t183 : Int).toNat * 4 + 3, none⟩ = some (.string ((rd_T25 y192 t183).f1.f2)) := hcc77 3 _ rfl
                                            have hf77_0 : World.frozen? _ ⟨go76, (t183 : Int).toNat * 4, none⟩ = false := hfr77 0
                                            have hf77_1 : World.frozen? _ ⟨go76, (t183 : Int).toNat * 4 + 1, none⟩ = false := hfr77 1
                                            have hf77_2 : World.frozen? _ ⟨go76, (t183 : Int).toNat * 4 + 2, none⟩ = false := hfr77 2
                                            have hf77_3 : World.frozen? _ ⟨go76, (t183 : Int).toNat * 4 + 3, none⟩ = false := hfr77 3
                                            clear hcl77 hcc77 hfr77 hM77
                                            replace p77 := eq_true p77
                                            replace q77 := eq_true q77
                                            obtain ⟨ce141, hcl141, hM141, hcc141, hfr141⟩ := Kd.R_elem HQ140.out z25 (t183 : Int) (of_decide_eq_true (by first | (with_reducible assumption) | assumption)) (by have h_ : (t183 : Int) < ((y187.length : Int) : Int) := of_decide_eq_true (by first | (with_reducible assumption) | assumption); first | exact h_ | (have e_ := (Kd.R_reads' HO189.out).1; omega) | simpa using h_)
                                            obtain rfl := k25_openM hM141
                                            have HP141 := (Kd.R_seg HQ140.out (t183 : Int) (of_decide_eq_true (by first | (with_reducible assumption) | assumption)) (by have h_ : (t183 : Int) < ((y187.length : Int) : Int) := of_decide_eq_true (by first | (with_reducible assumption) | assumption); first | exact h_ | (have e_ := (Kd.R_reads' HO189.out).1; omega) | simpa using h_) (seg := [.string ((rd_T25 y187 t182).f0), .bool ((rd_T25 y187 t182).f1.f0), .int .i64 ((rd_T25 y187 t182).f1.f1), .string ((rd_T25 y187 t182).f1.f2)]) (j := 0) hcl141 hcc141 (show 4 ≤ 4 from by decide) (x' := (⟨(rd_T25 y187 t182).f0, (⟨(rd_T25 y187 t182).f1.f0, (rd_T25 y187 t182).f1.f1, (rd_T25 y187 t182).f1.f2⟩ : S23)⟩ : S25)) (k25_mkM _ _ _ (⟨(rd_T25 y187 t182).f0, (⟨(rd_T25 y187 t182).f1.f0, (rd_T25 y187 t182).f1.f1, (rd_T25 y187 t182).f1.f2⟩ : S23)⟩ : S25) ) (fun _ hk => hk)).1
                                            rw [← Ny193.out] at HP141
                                            have HQ141 := Aside0.mk HP141
                                            clear hcl141 hcc141 hfr141 hM141 HP141
                                            refine start_ (n := 16) (S := fun w' => w'.cell? ⟨go76, ((t183).toNat * 4), none⟩ = some (.string ((rd_T25 y187 t183).f0)) ∧ w'.cell? ⟨go76, ((t183).toNat * 4) + 1, none⟩ = some (.bool ((rd_T25 y187 t183).f1.f0)) ∧ w'.cell? ⟨go76, ((t183).toNat * 4) + 2, none⟩ = some (.int .i64 ((rd_T25 y187 t183).f1.f1)) ∧ w'.cell? ⟨go76, ((t183).toNat * 4) + 3, none⟩ = some (.string ((rd_T25 y187 t183).f1.f2)) ∧ w'.cell? ⟨go76, ((t182).toNat * 4), none⟩ = some (.string ((rd_T25 y187 t182).f0)) ∧ w'.cell? ⟨go76, ((t182).toNat * 4) + 1, none⟩ = some (.bool ((rd_T25 y187 t182).f1.f0)) ∧ w'.cell? ⟨go76, ((t182).toNat * 4) + 2, none⟩ = some (.int .i64 ((rd_T25 y187 t182).f1.f1)) ∧ w'.cell? ⟨go76, ((t182).toNat * 4) + 3, none⟩ = some (.string ((rd_T25 y187 t182).f1.f2))) (ds := [13, 15]) #[false, false, false, false, false, false, false, false, false, false, false, false, false, false, false, false] (by kernel_rfl) rfl rfl ⟨hx190_0, hx190_1, hx190_2, hx190_3, hx191_0, hx191_1, hx191_2, hx191_3⟩ (fun hHeld => ?_); refine with_tabW broadsidelaw3_TupleNames.tab13 broadsidelaw3_TupleNames.bits13 (fun HT_ HW_ => ?_)
                                            generalize w137.drew = w138 at HO_12 HO189 BK163 HB GG76 HQ140 HQ141 hf76_0 hf76_1 hf76_2 hf76_3 hf77_0 hf77_1 hf77_2 hf77_3 hx190_0 hx190_1 hx190_2 hx190_3 hx191_0 hx191_1 hx191_2 hx191_3 hx76_0 hx76_1 hx76_2 hx76_3 hx77_0 hx77_1 hx77_2 hx77_3 hHeld ⊢
                                            refine pure_ (i := 0) (N := some 74) (v := ?_) (a' := ?_) #[true, false, false, false, false, false, false, false, false, false, false, false, false, false, false, false] rfl rfl (any_of HT_.out (by kernel_rfl)) (fun _ _ _ h => h) (Or.inl ⟨by rfl, ?_⟩) ?_ ?_
                                            rotate_left
                                            · intro w'
                                              go_simp
                                              with_reducible rfl
                                            rotate_left
                                            · simp only [Act.put, List.setIfInBounds_toArray, List.set_cons_zero, List.set_cons_succ, i64_w, i32_w]
                                              rfl
                                            refine pure_ (i := 1) (N := some 75) (v := ?_) (a' := ?_) #[true, true, false, false, false, false, false, false, false, false, false, false, false, false, false, false] rfl rfl (any_of HT_.out (by kernel_rfl)) (fun _ _ _ h => h) (Or.inl ⟨by rfl, ?_⟩) ?_ ?_
                                            rotate_left
                                            · intro w'
                                              go_simp
                                              with_reducible rfl
                                            rotate_left
                                            · simp only [Act.put, List.setIfInBounds_toArray, List.set_cons_zero, List.set_cons_succ, i64_w, i32_w]
                                              rfl
                                            refine pure_ (i := 2) (N := some 76) (v := ?_) (a' := ?_) #[true, true, true, false, false, false, false, false, false, false, false, false, false, false, false, false] rfl rfl (any_of HT_.out (by kernel_rfl)) (fun _ _ _ h => h) (Or.inl ⟨by rfl, ?_⟩) ?_ ?_
                                            rotate_left
                                            · intro w'
                                              go_simp
                                              with_reducible rfl
                                            rotate_left
                                            · simp only [Act.put, List.setIfInBounds_toArray, List.set_cons_zero, List.set_cons_succ, i64_w, i32_w]
                                              rfl
                                            refine pure_ (i := 3) (N := some 77) (v := ?_) (a' := ?_) #[true, true, true, true, false, false, false, false, false, false, false, false, false, false, false, false] rfl rfl (any_of HT_.out (by kernel_rfl)) (fun _ _ _ h => h) (Or.inl ⟨by rfl, ?_⟩) ?_ ?_
                                            rotate_left
                                            · intro w'
                                              go_simp
                                              with_reducible rfl
                                            rotate_left
                                            · simp only [Act.put, List.setIfInBounds_toArray, List.set_cons_zero, List.set_cons_succ, i64_w, i32_w]
                                              rfl
                                            refine pure_ (i := 4) (N := some 78) (v := ?_) (a' := ?_) #[true, true, true, true, true, false, false, false, false, false, false, false, false, false, false, false] rfl rfl (any_of HT_.out (by kernel_rfl)) (fun _ _ _ h => h) (Or.inl ⟨by rfl, ?_⟩) ?_ ?_
                                            rotate_left
                                            · intro w'
                                              go_simp
                                              with_reducible rfl
                                            rotate_left
                                            · simp only [Act.put, List.setIfInBounds_toArray, List.set_cons_zero, List.set_cons_succ, i64_w, i32_w]
                                              rfl
                                            refine pure_ (i := 5) (N := some 79) (v := ?_) (a' := ?_) #[true, true, true, true, true, true, false, false, false, false, false, false, false, false, false, false] rfl rfl (any_of HT_.out (by kernel_rfl)) (fun _ _ _ h => h) (Or.inl ⟨by rfl, ?_⟩) ?_ ?_
                                            rotate_left
                                            · intro w'
                                              go_simp
                                              with_reducible rfl
                                            rotate_left
                                            · simp only [Act.put, List.setIfInBounds_toArray, List.set_cons_zero, List.set_cons_succ, i64_w, i32_w]
                                              rfl
                                            refine pure_ (i := 6) (N := some 80) (v := ?_) (a' := ?_) #[true, true, true, true, true, true, true, false, false, false, false, false, false, false, false, false] rfl rfl (any_of HT_.out (by kernel_rfl)) (fun _ _ _ h => h) (Or.inl ⟨by rfl, ?_⟩) ?_ ?_
                                            rotate_left
                                            · intro w'
                                              go_simp
                                              with_reducible rfl
                                            rotate_left
                                            · simp only [Act.put, List.setIfInBounds_toArray, List.set_cons_zero, List.set_cons_succ, i64_w, i32_w]
                                              rfl
                                            refine pure_ (i := 8) (N := some 82) (v := ?_) (a' := ?_) #[true, true, true, true, true, true, true, false, true, false, false, false, false, false, false, false] rfl rfl (any_of HT_.out (by kernel_rfl)) (fun _ _ _ h => h) (Or.inl ⟨by rfl, ?_⟩) ?_ ?_
                                            rotate_left
                                            · intro w'
                                              go_simp
                                              with_reducible rfl
                                            rotate_left
                                            · simp only [Act.put, List.setIfInBounds_toArray, List.set_cons_zero, List.set_cons_succ, i64_w, i32_w]
                                              rfl
                                            refine pure_ (i := 9) (N := some 83) (v := ?_) (a' := ?_) #[true, true, true, true, true, true, true, false, true, true, false, false, false, false, false, false] rfl rfl (any_of HT_.out (by kernel_rfl)) (fun _ _ _ h => h) (Or.inl ⟨by rfl, ?_⟩) ?_ ?_
                                            rotate_left
                                            · intro w'
                                              go_simp
                                              with_reducible rfl
                                            rotate_left
                                            · simp only [Act.put, List.setIfInBounds_toArray, List.set_cons_zero, List.set_cons_succ, i64_w, i32_w]
                                              rfl
                                            refine pure_ (i := 10) (N := some 84) (v := ?_) (a' := ?_) #[true, true, true, true, true, true, true, false, true, true, true, false, false, false, false, false] rfl rfl (any_of HT_.out (by kernel_rfl)) (fun _ _ _ h => h) (Or.inl ⟨by rfl, ?_⟩) ?_ ?_
                                            rotate_left
                                            · intro w'
                                              go_simp
                                              with_reducible rfl
                                            rotate_left
                                            · simp only [Act.put, List.setIfInBounds_toArray, List.set_cons_zero, List.set_cons_succ, i64_w, i32_w]
                                              rfl
                                            refine take_ (i := 7) (N := some 81) (v := ?_) (a' := ?_) #[true, true, true, true, true, true, true, true, true, true, true, false, false, false, false, false] rfl rfl (take_ofW HT_.out HW_.out (by kernel_rfl)) (fun _ _ _ h => h) (Or.inl ⟨by rfl, ?_⟩) hHeld ?_ ?_
                                            rotate_left
                                            · rintro w' ⟨s0, s1, s2, s3, s4, s5, s6, s7⟩
                                              go_simp
                                              with_reducible rfl
                                            rotate_left
                                            · simp only [Act.put, List.setIfInBounds_toArray, List.set_cons_zero, List.set_cons_succ, i64_w, i32_w]
                                              rfl
                                            refine take_ (i := 11) (N := some 85) (v := ?_) (a' := ?_) #[true, true, true, true, true, true, true, true, true, true, true, true, false, false, false, false] rfl rfl (take_ofW HT_.out HW_.out (by kernel_rfl)) (fun _ _ _ h => h) (Or.inl ⟨by rfl, ?_⟩) hHeld ?_ ?_
                                            rotate_left
                                            · rintro w' ⟨s0, s1, s2, s3, s4, s5, s6, s7⟩
                                              go_simp
                                              with_reducible rfl
                                            rotate_left
                                            · simp only [Act.put, List.setIfInBounds_toArray, List.set_cons_zero, List.set_cons_succ, i64_w, i32_w]
                                              rfl
                                            refine pure_ (i := 12) (N := some 86) (v := ?_) (a' := ?_) #[true, true, true, true, true, true, true, true, true, true, true, true, true, false, false, false] rfl rfl (any_of HT_.out (by kernel_rfl)) (fun _ _ _ h => h) (Or.inl ⟨by rfl, ?_⟩) ?_ ?_
                                            rotate_left
                                            · intro w'
                                              go_simp
                                              with_reducible rfl
                                            rotate_left
                                            · simp only [Act.put, List.setIfInBounds_toArray, List.set_cons_zero, List.set_cons_succ, i64_w, i32_w]
                                              rfl
                                            have hy77_0 := c4_0 hx77_0
                                            have hy77_1 := c4_1 hx77_1
                                            have hy77_2 := c4_2 hx77_2
                                            have hy77_3 := c4_3 hx77_3
                                            have hg77_0 := f4 hf77_0
                                            have hg77_1 := f4 hf77_1
                                            have hg77_2 := f4 hf77_2
                                            have hg77_3 := f4 hf77_3
                                            refine last_ (i := 13) (N := none) #[true, true, true, true, true, true, true, true, true, true, true, true, true, true, false, false] rfl rfl (one_of HT_.out (by kernel_rfl)) (by decide) (fun K hK => ?_)
                                            refine skip_ (w1 := ?_) (by rfl) rfl ?_ ?_
                                            rotate_left
                                            · go_simp
                                              rfl
                                            refine hK.out _ _ ?_
                                            clear hK K
                                            refine pure_ (i := 14) (N := some 87) (v := ?_) (a' := ?_) #[true, true, true, true, true, true, true, true, true, true, true, true, true, true, true, false] rfl rfl (any_of HT_.out (by kernel_rfl)) (fun _ _ _ h => h) (Or.inl ⟨by rfl, ?_⟩) ?_ ?_
                                            rotate_left
                                            · intro w'
                                              go_simp
                                              with_reducible rfl
                                            rotate_left
                                            · simp only [Act.put, List.setIfInBounds_toArray, List.set_cons_zero, List.set_cons_succ, i64_w, i32_w]
                                              rfl
                                            refine last_ (i := 15) (N := none) #[true, true, true, true, true, true, true, true, true, true, true, true, true, true, true, true] rfl rfl (one_of HT_.out (by kernel_rfl)) (by decide) (fun K hK => ?_)
                                            refine skip_ (w1 := ?_) (by rfl) rfl ?_ ?_
                                            rotate_left
                                            · go_simp
                                              rfl
                                            refine hK.out _ _ ?_
                                            clear hK K
                                            refine done_ (done_of HT_.out (by kernel_rfl)) ?_
                                            go_upto_region 14 with (fail)
                                            refine pin_ (fun wq hwq => ?_)
                                            have n_12 := Aside0.mk (show Kd.R k25 25 wq w.heap.size (fun k_ => some k_ ≠ (.slice (some ⟨go76, 0, none⟩) y187.length co139 : Value).ownBlock) (.slice Ao134 t165.length co134) t165 from by rw [hwq]; (with_reducible repeat (first | apply Kd.R_alloc | apply Kd.R_drewN | apply Kd.R_drew)); exact (Kd.R_mono (Kd.R_far (p := ⟨go76, (t183 : Int).toNat * 4 + 3, none⟩) (Kd.R_far (p := ⟨go76, (t183 : Int).toNat * 4 + 2, none⟩) (Kd.R_far (p := ⟨go76, (t183 : Int).toNat * 4 + 1, none⟩) (Kd.R_far (p := ⟨go76, (t183 : Int).toNat * 4, none⟩) (Kd.R_far (p := ⟨go76, (t182 : Int).toNat * 4 + 3, none⟩) (Kd.R_far (p := ⟨go76, (t182 : Int).toNat * 4 + 2, none⟩) (Kd.R_far (p := ⟨go76, (t182 : Int).toNat * 4 + 1, none⟩) (Kd.R_far (p := ⟨go76, (t182 : Int).toNat * 4, none⟩) (Kd.R_mono HO_12.out (fun k_ hk => (⟨hk, fun e_ => hk.2 (by rw [e_]; rfl)⟩ : _ ∧ k_ ≠ go76))) (fun _ hk => hk.2) (.string ((rd_T25 y187 t183).f0))) (fun _ hk => hk.2) (.bool ((rd_T25 y187 t183).f1.f0))) (fun _ hk => hk.2) (.int .i64 ((rd_T25 y187 t183).f1.f1))) (fun _ hk => hk.2) (.string ((rd_T25 y187 t183).f1.f2))) (fun _ hk => hk.2) (.string ((rd_T25 y187 t182).f0))) (fun _ hk => hk.2) (.bool ((rd_T25 y187 t182).f1.f0))) (fun _ hk => hk.2) (.int .i64 ((rd_T25 y187 t182).f1.f1))) (fun _ hk => hk.2) (.string ((rd_T25 y187 t182).f1.f2))) (fun _ h_ => h_.1.2)))
                                            have n_15 := Aside0.mk (show Kd.R k25 25 wq w.heap.size (fun k_ => some k_ ≠ (.slice Ao134 t165.length co134 : Value).ownBlock) (.slice (some ⟨go76, 0, none⟩) y187.length co139) y193 from by rw [hwq]; (with_reducible repeat (first | apply Kd.R_alloc | apply Kd.R_drewN | apply Kd.R_drew)); exact HQ141.out)
                                            have n_bk := Aside0.mk (show wq.heap[gb163]? = some (.cells #[.slice A0_0 l0_0.length c0_0, .slice A0_1 l0_1.length c0_1] 35 (0, 0)) from by rw [hwq]; (with_reducible repeat (first | refine blk_drewN ?_ _ | refine blk_drew ?_ | refine blk_alloc ?_ _)); refine blk_far ?_ (by have h_ := Kd.R_ne HO189.out BK163.out (by decide); intro e_; exact h_ (by rw [e_]; rfl)) _; (with_reducible repeat (first | refine blk_drewN ?_ _ | refine blk_drew ?_ | refine blk_alloc ?_ _)); refine blk_far ?_ (by have h_ := Kd.R_ne HO189.out BK163.out (by decide); intro e_; exact h_ (by rw [e_]; rfl)) _; (with_reducible repeat (first | refine blk_drewN ?_ _ | refine blk_drew ?_ | refine blk_alloc ?_ _)); refine blk_far ?_ (by have h_ := Kd.R_ne HO189.out BK163.out (by decide); intro e_; exact h_ (by rw [e_]; rfl)) _; (with_reducible repeat (first | refine blk_drewN ?_ _ | refine blk_drew ?_ | refine blk_alloc ?_ _)); refine blk_far ?_ (by have h_ := Kd.R_ne HO189.out BK163.out (by decide); intro e_; exact h_ (by rw [e_]; rfl)) _; (with_reducible repeat (first | refine blk_drewN ?_ _ | refine blk_drew ?_ | refine blk_alloc ?_ _)); refine blk_far ?_ (by have h_ := Kd.R_ne HO189.out BK163.out (by decide); intro e_; exact h_ (by rw [e_]; rfl)) _; (with_reducible repeat (first | refine blk_drewN ?_ _ | refine blk_drew ?_ | refine blk_alloc ?_ _)); refine blk_far ?_ (by have h_ := Kd.R_ne HO189.out BK163.out (by decide); intro e_; exact h_ (by rw [e_]; rfl)) _; (with_reducible repeat (first | refine blk_drewN ?_ _ | refine blk_drew ?_ | refine blk_alloc ?_ _)); refine blk_far ?_ (by have h_ := Kd.R_ne HO189.out BK163.out (by decide); intro e_; exact h_ (by rw [e_]; rfl)) _; (with_reducible repeat (first | refine blk_drewN ?_ _ | refine blk_drew ?_ | refine blk_alloc ?_ _)); refine blk_far ?_ (by have h_ := Kd.R_ne HO189.out BK163.out (by decide); intro e_; exact h_ (by rw [e_]; rfl)) _; (with_reducible repeat (first | refine blk_drewN ?_ _ | refine blk_drew ?_ | refine blk_alloc ?_ _)); exact BK163.out)
                                            have n_hb := Aside0.mk (show Below w.heap.size w wq from by rw [hwq]; exact (by repeat (first | (with_reducible first | exact HB.out | apply below_alloc | apply pw_below_drewN | apply below_drew1 | refine below_set ?_ GB76.out | refine below_set ?_ GB76.out | refine below_set ?_ GB76.out | refine below_set ?_ GB76.out | refine below_set ?_ GB76.out | refine below_set ?_ GB76.out | refine below_set ?_ GB76.out | refine below_set ?_ GB76.out | refine below_set ?_ GE163.out) | exact HB.out)))
                                            clear hwq HO_12 BK163 HB
                                            have HO_12 := n_12
                                            have HO189 := n_15
                                            have BK163 := n_bk
                                            have HB := n_hb
                                            clear n_12 n_15 n_bk n_hb
                                            have p200 : 0 ≤ ((ji79) : Int) := of_decide_eq_true (by first | (with_reducible assumption) | assumption)
                                            have q200 : (ji79) < (t165.length : Int) := of_decide_eq_true (by first | (with_reducible assumption) | assumption)
                                            obtain ⟨ad200, e200, hx200_0, hx200_1, hx200_2, hx200_3⟩ := at_T25 (Kd.R_reads' HO_12.out).2.2 (ji79) p200 q200
                                            cases e200
                                            have HCR := Aside0.mk (Kd.R_reads' HO_12.out).2.2
                                            have hS : ∀ w', Below wq.heap.size wq w' → w'.cell? (ad200.add (ji79.toNat * 4)) = some (.string (rd_T25 t165 ji79).f0) ∧ w'.cell? ⟨(ad200.add (ji79.toNat * 4)).block, (ad200.add (ji79.toNat * 4)).off + 1, none⟩ = some (.bool (rd_T25 t165 ji79).f1.f0) ∧ w'.cell? ⟨(ad200.add (ji79.toNat * 4)).block, (ad200.add (ji79.toNat * 4)).off + 2, none⟩ = some (.int .i64 (rd_T25 t165 ji79).f1.f1) ∧ w'.cell? ⟨(ad200.add (ji79.toNat * 4)).block, (ad200.add (ji79.toNat * 4)).off + 3, none⟩ = some (.string (rd_T25 t165 ji79).f1.f2) := fun w' hw => ⟨(hw.cell (World.block_lt_of_cell? wq _ hx200_0)).trans hx200_0, (hw.cell (World.block_lt_of_cell? wq _ hx200_1)).trans hx200_1, (hw.cell (World.block_lt_of_cell? wq _ hx200_2)).trans hx200_2, (hw.cell (World.block_lt_of_cell? wq _ hx200_3)).trans hx200_3⟩
                                            clear hx200_0 hx200_1 hx200_2 hx200_3
                                            replace p200 := eq_true p200
                                            replace q200 := eq_true q200
                                            refine start_ (n := 12) (S := fun w' => w'.cell? (ad200.add (ji79.toNat * 4)) = some (.string (rd_T25 t165 ji79).f0) ∧ w'.cell? ⟨(ad200.add (ji79.toNat * 4)).block, (ad200.add (ji79.toNat * 4)).off + 1, none⟩ = some (.bool (rd_T25 t165 ji79).f1.f0) ∧ w'.cell? ⟨(ad200.add (ji79.toNat * 4)).block, (ad200.add (ji79.toNat * 4)).off + 2, none⟩ = some (.int .i64 (rd_T25 t165 ji79).f1.f1) ∧ w'.cell? ⟨(ad200.add (ji79.toNat * 4)).block, (ad200.add (ji79.toNat * 4)).off + 3, none⟩ = some (.string (rd_T25 t165 ji79).f1.f2)) (ds := []) #[false, false, false, false, false, false, false, false, false, false, false, false] (by kernel_rfl) rfl rfl (hS _ (below_drew1 (Below.refl _ _))) (fun hHeld => ?_)
                                            have hW0 : Below wq.heap.size wq wq.drew := below_drew1 (Below.refl _ _)
                                            have hbase : wq.heap.size ≤ wq.drew.heap.size := hW0.size
                                            have hSz := fun (W' : World) (hW : Below wq.drew.heap.size wq.drew W') => hS W' (below_step hW0 hW)
                                            generalize wq.drew = W0 at hW0 hbase hHeld hSz ⊢
                                            have HCK0 := Aside0.mk (Kd.C_below HCR.out hW0)
                                            clear hS HCR
                                            refine pure_ (i := 1) (N := (some 89)) (v := ?_) (a' := ?_) #[false, true, false, false, false, false, false, false, false, false, false, false] rfl rfl (by kernel_rfl) (fun _ _ _ h => h) (Or.inl ⟨by rfl, ?_⟩) ?_ ?_
                                            rotate_left
                                            · intro w'
                                              go_simp
                                              with_reducible rfl
                                            rotate_left
                                            · simp only [Act.put, List.setIfInBounds_toArray, List.set_cons_zero, List.set_cons_succ, i64_w, i32_w]
                                              rfl
                                            refine pure_ (i := 3) (N := (some 91)) (v := ?_) (a' := ?_) #[false, true, false, true, false, false, false, false, false, false, false, false] rfl rfl (by kernel_rfl) (fun _ _ _ h => h) (Or.inl ⟨by rfl, ?_⟩) ?_ ?_
                                            rotate_left
                                            · intro w'
                                              go_simp
                                              with_reducible rfl
                                            rotate_left
                                            · simp only [Act.put, List.setIfInBounds_toArray, List.set_cons_zero, List.set_cons_succ, i64_w, i32_w]
                                              rfl
                                            refine pure_ (i := 4) (N := (some 92)) (v := ?_) (a' := ?_) #[false, true, false, true, true, false, false, false, false, false, false, false] rfl rfl (by kernel_rfl) (fun _ _ _ h => h) (Or.inl ⟨by rfl, ?_⟩) ?_ ?_
                                            rotate_left
                                            · intro w'
                                              go_simp
                                              with_reducible rfl
                                            rotate_left
                                            · simp only [Act.put, List.setIfInBounds_toArray, List.set_cons_zero, List.set_cons_succ, i64_w, i32_w]
                                              rfl
                                            refine pure_ (i := 5) (N := (some 93)) (v := ?_) (a' := ?_) #[false, true, false, true, true, true, false, false, false, false, false, false] rfl rfl (by kernel_rfl) (fun _ _ _ h => h) (Or.inl ⟨by rfl, ?_⟩) ?_ ?_
                                            rotate_left
                                            · intro w'
                                              go_simp
                                              with_reducible rfl
                                            rotate_left
                                            · simp only [Act.put, List.setIfInBounds_toArray, List.set_cons_zero, List.set_cons_succ, i64_w, i32_w]
                                              rfl
                                            refine pure_ (i := 6) (N := (some 94)) (v := ?_) (a' := ?_) #[false, true, false, true, true, true, true, false, false, false, false, false] rfl rfl (by kernel_rfl) (fun _ _ _ h => h) (Or.inl ⟨by rfl, ?_⟩) ?_ ?_
                                            rotate_left
                                            · intro w'
                                              go_simp
                                              with_reducible rfl
                                            rotate_left
                                            · simp only [Act.put, List.setIfInBounds_toArray, List.set_cons_zero, List.set_cons_succ, i64_w, i32_w]
                                              rfl
                                            refine pure_ (i := 7) (N := (some 95)) (v := ?_) (a' := ?_) #[false, true, false, true, true, true, true, true, false, false, false, false] rfl rfl (by kernel_rfl) (fun _ _ _ h => h) (Or.inl ⟨by rfl, ?_⟩) ?_ ?_
                                            rotate_left
                                            · intro w'
                                              go_simp
                                              with_reducible rfl
                                            rotate_left
                                            · simp only [Act.put, List.setIfInBounds_toArray, List.set_cons_zero, List.set_cons_succ, i64_w, i32_w]
                                              rfl
                                            refine take_ (i := 8) (N := (some 96)) (v := ?_) (a' := ?_) #[false, true, false, true, true, true, true, true, true, false, false, false] rfl rfl (by kernel_rfl) (fun _ _ _ h => h) (Or.inl ⟨by rfl, ?_⟩) hHeld ?_ ?_
                                            rotate_left
                                            · rintro w' ⟨s0, s1, s2, s3⟩
                                              go_simp
                                              with_reducible rfl
                                            rotate_left
                                            · simp only [Act.put, List.setIfInBounds_toArray, List.set_cons_zero, List.set_cons_succ, i64_w, i32_w]
                                              rfl
                                            refine join_ (σ := Nat × Value × Value) 2 #[true, true, true, true, true, true, true, true, true, true, false, false] (fun s => [(88, .slice (some ⟨s.1, 0, none⟩) 0 0), (90, s.2.1), (97, s.2.2)]) (fun s W' => JR W0 wq.heap.size t165 (rd_T25 t165 ji79) s.2.1 s.2.2 W') ?_ ?_
                                            rotate_left
                                            · intro hJ
                                              refine two_ (i := 0) (j := 9) (Ni := some 88) (Nj := some 97) #[true, true, false, true, true, true, true, true, true, false, false, false] #[false, true, false, true, true, true, true, true, true, true, false, false] rfl rfl rfl rfl (by kernel_rfl) (by decide) (by decide) (fun K hK => ?_) (fun K hK => ?_)
                                              · skip
                                                refine value_ (w1 := W0.alloc (.cells #[] 25)) (v := .slice (some ⟨W0.heap.size, 0, none⟩) 0 0) (by rfl) rfl (by go_simp) ?_
                                                refine hK.out _ _ (hSz _ (below_alloc (Below.refl _ _) _)) (fun hHeld => ?_)
                                                clear hK K
                                                refine norm_ (a' := ?_) ?_ ?_
                                                rotate_left
                                                · show Act.put _ (some 88) _ = _
                                                  simp only [Act.put, List.setIfInBounds_toArray, List.set_cons_zero, List.set_cons_succ, i64_w, i32_w]
                                                  rfl
                                                refine two_ (i := 2) (j := 9) (Ni := some 90) (Nj := some 97) #[true, true, true, true, true, true, true, true, true, false, false, false] #[true, true, false, true, true, true, true, true, true, true, false, false] rfl rfl rfl rfl (by kernel_rfl) (by decide) (by decide) (fun K hK => ?_) (fun K hK => ?_)
                                                · skip
                                                  obtain ⟨v1, w1, hrun, hrow, hbel, hfr, hkeep, hsz⟩ := jr_one (c := co134) (g81 := W0.heap.size) (ds := t165) (below_alloc (Below.refl W0.heap.size W0) _) hbase (heap_alloc_new W0 _) (Nat.le_refl _) (Kd.C_below HCK0.out (below_alloc (Below.refl W0.heap.size W0) _)) (by have := LMc78.out; have := LMc82.out; simp only [Ny194.out, Ny197.out, List.nil_append, List.length_nil] at *; omega)
                                                  refine step_app25 (by rfl) rfl (.tmp 88) (.tmp 89) rfl rfl (by rfl) (by rfl) hrun ?_
                                                  refine hK.out _ _ (hSz _ (hbel)) (fun hHeld => ?_)
                                                  clear hK K
                                                  refine norm_ (a' := ?_) ?_ ?_
                                                  rotate_left
                                                  · show Act.put _ (some 90) _ = _
                                                    simp only [Act.put, List.setIfInBounds_toArray, List.set_cons_zero, List.set_cons_succ, i64_w, i32_w]
                                                    rfl
                                                  refine one_ (i := 9) (N := (some 97)) #[true, true, true, true, true, true, true, true, true, true, false, false] rfl rfl (by kernel_rfl) (by decide) (fun K hK => ?_)
                                                  refine value_ (w1 := w1.alloc (.cells #[.string (rd_T25 t165 ji79).f0, .bool (rd_T25 t165 ji79).f1.f0, .int .i64 (rd_T25 t165 ji79).f1.f1, .string (rd_T25 t165 ji79).f1.f2] 25)) (v := .slice (some ⟨w1.heap.size, 0, none⟩) 1 1) (by rfl) rfl (by go_simp) ?_
                                                  refine hK.out _ _ (hSz _ (below_alloc hbel _)) (fun hHeld => ?_)
                                                  clear hK K
                                                  refine norm_ (a' := ?_) ?_ ?_
                                                  rotate_left
                                                  · show Act.put _ (some 97) _ = _
                                                    simp only [Act.put, List.setIfInBounds_toArray, List.set_cons_zero, List.set_cons_succ, i64_w, i32_w]
                                                    rfl
                                                  have h := hJ (W0.heap.size, v1, .slice (some ⟨w1.heap.size, 0, none⟩) 1 1) _ (jr_late hrow hbel hfr)
                                                  simp only [putAll, Act.put, List.setIfInBounds_toArray, List.set_cons_zero, List.set_cons_succ] at h
                                                  exact h
                                                · skip
                                                  refine value_ (w1 := (W0.alloc (.cells #[] 25)).alloc (.cells #[.string (rd_T25 t165 ji79).f0, .bool (rd_T25 t165 ji79).f1.f0, .int .i64 (rd_T25 t165 ji79).f1.f1, .string (rd_T25 t165 ji79).f1.f2] 25)) (v := .slice (some ⟨(W0.alloc (.cells #[] 25)).heap.size, 0, none⟩) 1 1) (by rfl) rfl (by go_simp) ?_
                                                  refine hK.out _ _ (hSz _ (below_alloc (below_alloc (Below.refl _ _) _) _)) (fun hHeld => ?_)
                                                  clear hK K
                                                  refine norm_ (a' := ?_) ?_ ?_
                                                  rotate_left
                                                  · show Act.put _ (some 97) _ = _
                                                    simp only [Act.put, List.setIfInBounds_toArray, List.set_cons_zero, List.set_cons_succ, i64_w, i32_w]
                                                    rfl
                                                  refine one_ (i := 2) (N := (some 90)) #[true, true, true, true, true, true, true, true, true, true, false, false] rfl rfl (by kernel_rfl) (by decide) (fun K hK => ?_)
                                                  obtain ⟨v1, w1, hrun, hrow, hbel, hfr, hkeep, hsz⟩ := jr_one (c := co134) (g81 := W0.heap.size) (ds := t165) (below_alloc (below_alloc (Below.refl W0.heap.size W0) (.cells #[] 25)) (.cells #[.string (rd_T25 t165 ji79).f0, .bool (rd_T25 t165 ji79).f1.f0, .int .i64 (rd_T25 t165 ji79).f1.f1, .string (rd_T25 t165 ji79).f1.f2] 25)) hbase ((Val.old_alloc (by simp)).trans (heap_alloc_new W0 _)) (Nat.le_refl _) (Kd.C_below HCK0.out (below_alloc (below_alloc (Below.refl W0.heap.size W0) (.cells #[] 25)) (.cells #[.string (rd_T25 t165 ji79).f0, .bool (rd_T25 t165 ji79).f1.f0, .int .i64 (rd_T25 t165 ji79).f1.f1, .string (rd_T25 t165 ji79).f1.f2] 25))) (by have := LMc78.out; have := LMc82.out; simp only [Ny194.out, Ny197.out, List.nil_append, List.length_nil] at *; omega)
                                                  refine step_app25 (by rfl) rfl (.tmp 88) (.tmp 89) rfl rfl (by rfl) (by rfl) hrun ?_
                                                  refine hK.out _ _ (hSz _ (hbel)) (fun hHeld => ?_)
                                                  clear hK K
                                                  refine norm_ (a' := ?_) ?_ ?_
                                                  rotate_left
                                                  · show Act.put _ (some 90) _ = _
                                                    simp only [Act.put, List.setIfInBounds_toArray, List.set_cons_zero, List.set_cons_succ, i64_w, i32_w]
                                                    rfl
                                                  have h := hJ (W0.heap.size, v1, .slice (some ⟨(W0.alloc (.cells #[] 25)).heap.size, 0, none⟩) 1 1) _ (jr_early hrow hbel hfr hkeep (heap_alloc_new (W0.alloc (.cells #[] 25)) (.cells #[.string (rd_T25 t165 ji79).f0, .bool (rd_T25 t165 ji79).f1.f0, .int .i64 (rd_T25 t165 ji79).f1.f1, .string (rd_T25 t165 ji79).f1.f2] 25)) (by simp) (by simp))
                                                  simp only [putAll, Act.put, List.setIfInBounds_toArray, List.set_cons_zero, List.set_cons_succ] at h
                                                  exact h
                                              · skip
                                                refine value_ (w1 := W0.alloc (.cells #[.string (rd_T25 t165 ji79).f0, .bool (rd_T25 t165 ji79).f1.f0, .int .i64 (rd_T25 t165 ji79).f1.f1, .string (rd_T25 t165 ji79).f1.f2] 25)) (v := .slice (some ⟨W0.heap.size, 0, none⟩) 1 1) (by rfl) rfl (by go_simp) ?_
                                                refine hK.out _ _ (hSz _ (below_alloc (Below.refl _ _) _)) (fun hHeld => ?_)
                                                clear hK K
                                                refine norm_ (a' := ?_) ?_ ?_
                                                rotate_left
                                                · show Act.put _ (some 97) _ = _
                                                  simp only [Act.put, List.setIfInBounds_toArray, List.set_cons_zero, List.set_cons_succ, i64_w, i32_w]
                                                  rfl
                                                refine one_ (i := 0) (N := (some 88)) #[true, true, false, true, true, true, true, true, true, true, false, false] rfl rfl (by kernel_rfl) (by decide) (fun K hK => ?_)
                                                refine value_ (w1 := (W0.alloc (.cells #[.string (rd_T25 t165 ji79).f0, .bool (rd_T25 t165 ji79).f1.f0, .int .i64 (rd_T25 t165 ji79).f1.f1, .string (rd_T25 t165 ji79).f1.f2] 25)).alloc (.cells #[] 25)) (v := .slice (some ⟨(W0.alloc (.cells #[.string (rd_T25 t165 ji79).f0, .bool (rd_T25 t165 ji79).f1.f0, .int .i64 (rd_T25 t165 ji79).f1.f1, .string (rd_T25 t165 ji79).f1.f2] 25)).heap.size, 0, none⟩) 0 0) (by rfl) rfl (by go_simp) ?_
                                                refine hK.out _ _ (hSz _ (below_alloc (below_alloc (Below.refl _ _) _) _)) (fun hHeld => ?_)
                                                clear hK K
                                                refine norm_ (a' := ?_) ?_ ?_
                                                rotate_left
                                                · show Act.put _ (some 88) _ = _
                                                  simp only [Act.put, List.setIfInBounds_toArray, List.set_cons_zero, List.set_cons_succ, i64_w, i32_w]
                                                  rfl
                                                refine one_ (i := 2) (N := (some 90)) #[true, true, true, true, true, true, true, true, true, true, false, false] rfl rfl (by kernel_rfl) (by decide) (fun K hK => ?_)
                                                obtain ⟨v1, w1, hrun, hrow, hbel, hfr, hkeep, hsz⟩ := jr_one (c := co134) (g81 := (W0.alloc (.cells #[.string (rd_T25 t165 ji79).f0, .bool (rd_T25 t165 ji79).f1.f0, .int .i64 (rd_T25 t165 ji79).f1.f1, .string (rd_T25 t165 ji79).f1.f2] 25)).heap.size) (ds := t165) (below_alloc (below_alloc (Below.refl W0.heap.size W0) (.cells #[.string (rd_T25 t165 ji79).f0, .bool (rd_T25 t165 ji79).f1.f0, .int .i64 (rd_T25 t165 ji79).f1.f1, .string (rd_T25 t165 ji79).f1.f2] 25)) (.cells #[] 25)) hbase (heap_alloc_new (W0.alloc (.cells #[.string (rd_T25 t165 ji79).f0, .bool (rd_T25 t165 ji79).f1.f0, .int .i64 (rd_T25 t165 ji79).f1.f1, .string (rd_T25 t165 ji79).f1.f2] 25)) (.cells #[] 25)) (by simp) (Kd.C_below HCK0.out (below_alloc (below_alloc (Below.refl W0.heap.size W0) (.cells #[.string (rd_T25 t165 ji79).f0, .bool (rd_T25 t165 ji79).f1.f0, .int .i64 (rd_T25 t165 ji79).f1.f1, .string (rd_T25 t165 ji79).f1.f2] 25)) (.cells #[] 25))) (by have := LMc78.out; have := LMc82.out; simp only [Ny194.out, Ny197.out, List.nil_append, List.length_nil] at *; omega)
                                                refine step_app25 (by rfl) rfl (.tmp 88) (.tmp 89) rfl rfl (by rfl) (by rfl) hrun ?_
                                                refine hK.out _ _ (hSz _ (hbel)) (fun hHeld => ?_)
                                                clear hK K
                                                refine norm_ (a' := ?_) ?_ ?_
                                                rotate_left
                                                · show Act.put _ (some 90) _ = _
                                                  simp only [Act.put, List.setIfInBounds_toArray, List.set_cons_zero, List.set_cons_succ, i64_w, i32_w]
                                                  rfl
                                                have h := hJ ((W0.alloc (.cells #[.string (rd_T25 t165 ji79).f0, .bool (rd_T25 t165 ji79).f1.f0, .int .i64 (rd_T25 t165 ji79).f1.f1, .string (rd_T25 t165 ji79).f1.f2] 25)).heap.size, v1, .slice (some ⟨W0.heap.size, 0, none⟩) 1 1) _ (jr_early hrow hbel hfr hkeep ((Val.old_alloc (by simp)).trans (heap_alloc_new W0 _)) (Nat.le_refl _) (by simp))
                                                simp only [putAll, Act.put, List.setIfInBounds_toArray, List.set_cons_zero, List.set_cons_succ] at h
                                                exact h
                                            rintro ⟨g88, v90, v97⟩ W1 hJR
                                            refine norm_ (a' := ?_) ?_ ?_
                                            rotate_left
                                            · simp only [putAll, Act.put, List.setIfInBounds_toArray, List.set_cons_zero, List.set_cons_succ]
                                              rfl
                                            replace hJR : JR W0 wq.heap.size t165 (rd_T25 t165 ji79) v90 v97 W1 := hJR
                                            refine one_ (i := 10) (N := (some 98)) #[true, true, true, true, true, true, true, true, true, true, true, false] rfl rfl (by kernel_rfl) (by decide) (fun K hK => ?_)
                                            obtain ⟨v202, W2, hrun, hrow, hbel, hfr⟩ := jr_two hJR hbase (by have := LMc78.out; have := LMc82.out; simp only [Ny194.out, Ny197.out, List.nil_append, List.length_nil] at *; omega)
                                            refine step_app25 (by rfl) rfl (.tmp 90) (.tmp 97) rfl rfl (by rfl) (by rfl) hrun ?_
                                            refine hK.out _ _ (hSz _ (hbel)) (fun hHeld => ?_)
                                            clear hK K
                                            refine norm_ (a' := ?_) ?_ ?_
                                            rotate_left
                                            · show Act.put _ (some 98) _ = _
                                              simp only [Act.put, List.setIfInBounds_toArray, List.set_cons_zero, List.set_cons_succ, i64_w, i32_w]
                                              rfl
                                            clear hJR hrun
                                            refine pure_ (i := 11) (N := (some 16)) (v := ?_) (a' := ?_) #[true, true, true, true, true, true, true, true, true, true, true, true] rfl rfl (by kernel_rfl) (fun _ _ _ h => h) (Or.inl ⟨by rfl, ?_⟩) ?_ ?_
                                            rotate_left
                                            · intro w'
                                              go_simp
                                              with_reducible rfl
                                            rotate_left
                                            · simp only [Act.put, List.setIfInBounds_toArray, List.set_cons_zero, List.set_cons_succ, i64_w, i32_w]
                                              rfl
                                            refine done_ (by kernel_rfl) ?_
                                            replace hrow : Own25 W2 wq.heap.size v202 y201 := (by rw [Ny201.out, Ny197.out, Ny194.out, List.nil_append]; exact hrow)
                                            have ho := R_of_flat hrow
                                            have hb := below_step hW0 hbel
                                            clear hrow hbel hfr hHeld hSz hW0 hbase
                                            have n0_ := Aside0.mk (Kd.R_elder' HO_12.out (Kd.R_base ho) hb)
                                            have n1_ := Aside0.mk (Kd.R_elder' HO189.out (Kd.R_base ho) hb)
                                            have n2_ := Aside0.mk (Kd.R_lower (Kd.R_mono (ok' := fun k_ => some k_ ≠ (.slice (some ad200) t165.length co134 : Value).ownBlock ∧ some k_ ≠ (.slice (some ⟨go76, 0, none⟩) y187.length co139 : Value).ownBlock) (Kd.R_new' (Kd.R_new' ho (Kd.R_lt HO_12.out)) (Kd.R_lt HO189.out)) (fun _ hk => ⟨hk.1.2, hk.2⟩)) HB.out.size)
                                            have n3_ := Aside0.mk (blk_below (g := gb163) (o := .cells #[.slice A0_0 l0_0.length c0_0, .slice A0_1 l0_1.length c0_1] 35 (0, 0)) BK163.out hb)
                                            have n4_ := Aside0.mk (below_step HB.out hb)
                                            clear HO_12 HO189 BK163 HB ho hb
                                            have HO_12 := n0_
                                            have HO189 := n1_
                                            have HO203 := n2_
                                            have BK163 := n3_
                                            have HB := n4_
                                            clear n0_ n1_ n2_ n3_ n4_
                                            go_wp2_with (first | ((with_reducible refine gate_dst (N := 99) rfl ?_); (try (refine gate_guard (by rfl) ?_; dsimp only)); refine Kd.R_lit k25 _ 25 ?hg (N := 99) ?hd (xs := ([] : List (S25))) (inner := []) (ok := fun _ => True) (okp := fun _ => True) ?hr ?hp (fun _ hk => hk) trivial (Below.refl _ _) (Nat.le_refl _) (by simp) ?_; (case hd => rfl); (case hg => rfl); (case hr => first | (go_simp; done) | (go_simp; rfl)); (case hp => exact (Reps.none _ _)); intro v205 w146 ho147 hb hg_ hnew_; clear hg_ hnew_; (first | rw [← Ny204.out] at ho147 | (simp only [Int.reduceToNat] at ho147; rw [← Ny204.out] at ho147)); have n0_ := Aside0.mk (Kd.R_elder' (by (with_reducible repeat (first | apply Kd.R_alloc | apply Kd.R_drewN | apply Kd.R_drew)); exact HO_12.out) (Kd.R_base ho147) hb); have n1_ := Aside0.mk (Kd.R_elder' (by (with_reducible repeat (first | apply Kd.R_alloc | apply Kd.R_drewN | apply Kd.R_drew)); exact HO189.out) (Kd.R_base ho147) hb); have n2_ := Aside0.mk (Kd.R_elder' (by (with_reducible repeat (first | apply Kd.R_alloc | apply Kd.R_drewN | apply Kd.R_drew)); exact HO203.out) (Kd.R_base ho147) hb); have n3_ := Aside0.mk (Kd.R_lower (Kd.R_new' (Kd.R_new' (Kd.R_new' ho147 (Kd.R_lt (by (with_reducible repeat (first | apply Kd.R_alloc | apply Kd.R_drewN | apply Kd.R_drew)); exact HO_12.out))) (Kd.R_lt (by (with_reducible repeat (first | apply Kd.R_alloc | apply Kd.R_drewN | apply Kd.R_drew)); exact HO189.out))) (Kd.R_lt (by (with_reducible repeat (first | apply Kd.R_alloc | apply Kd.R_drewN | apply Kd.R_drew)); exact HO203.out))) (below_size (by repeat (first | (with_reducible first | exact HB.out | apply below_alloc | apply pw_below_drewN | apply below_drew1 | refine below_set ?_ GE163.out) | exact HB.out)))); have n4_ := Aside0.mk (blk_below (g := gb163) (o := .cells #[.slice A0_0 l0_0.length c0_0, .slice A0_1 l0_1.length c0_1] 35 (0, 0)) (by (with_reducible repeat (first | refine blk_drewN ?_ _ | refine blk_drew ?_ | refine blk_alloc ?_ _)); exact BK163.out) hb); have n5_ := Aside0.mk (below_step (by repeat (first | (with_reducible first | exact HB.out | apply below_alloc | apply pw_below_drewN | apply below_drew1 | refine below_set ?_ GE163.out) | exact HB.out)) hb); clear HO_12; clear HO189; clear HO203; clear BK163; clear HB; have HO_12 := n0_; have HO189 := n1_; have HO203 := n2_; have HO206 := n3_; have BK163 := n4_; have HB := n5_; clear n0_ n1_ n2_ n3_ n4_ n5_; clear hb ho147) | ((with_reducible refine gate_builtin (b := .append) (xs := #[.tmp 99, .tmp 100]) rfl ?_); (try (refine gate_guard (by rfl) ?_; dsimp only)); at_builtin; refine Kd.R_append_rows k25 (w0 := w) w.heap.size rfl (.tmp 99) (.tmp 100) 26 25 (.agg #[(.string ⟨#[]⟩), (.bool false), (.int .i64 0), (.string ⟨#[]⟩)]) 48 rfl Tryz.underlying26 info25 rfl (by decide) (by omega) v205 y204 t165 _ _ _ (fun k_ => some k_ ≠ (.slice (some ad200) t165.length co134 : Value).ownBlock ∧ some k_ ≠ (.slice (some ⟨go76, 0, none⟩) y187.length co139 : Value).ownBlock ∧ some k_ ≠ (v202 : Value).ownBlock) (fun _ => False) rfl rfl ?aO ?aR (fun _ _ h => h) (fun _ h => h.elim) ?aF ?aB ?aS ?aL ?_; (case aR => repeat (first | exact (Kd.R_reads' HO_12.out).2.2 | (with_reducible refine Kd.C_alloc ?_ _) | (with_reducible refine Kd.C_drewN ?_ _) | (with_reducible refine Kd.C_drew ?_))); (case aB => exact (by repeat (first | (with_reducible first | exact HB.out | apply below_alloc | apply pw_below_drewN | apply below_drew1 | refine below_set ?_ GE163.out) | exact HB.out))); (case aF => exact (fun k_ hk => ⟨Kd.fresh' (Kd.R_lt (by (with_reducible repeat (first | apply Kd.R_alloc | apply Kd.R_drewN | apply Kd.R_drew)); exact HO_12.out)) k_ hk, Kd.fresh' (Kd.R_lt (by (with_reducible repeat (first | apply Kd.R_alloc | apply Kd.R_drewN | apply Kd.R_drew)); exact HO189.out)) k_ hk, Kd.fresh' (Kd.R_lt (by (with_reducible repeat (first | apply Kd.R_alloc | apply Kd.R_drewN | apply Kd.R_drew)); exact HO203.out)) k_ hk⟩)); (case aO => exact (by (with_reducible repeat (first | apply Kd.R_alloc | apply Kd.R_drewN | apply Kd.R_drew)); exact Kd.R_mono HO206.out (fun _ hk => ⟨hk.1.1.2, ⟨hk.1.2, hk.2⟩⟩))); (case aS => exact (below_size (by repeat (first | (with_reducible first | exact HB.out | apply below_alloc | apply pw_below_drewN | apply below_drew1 | refine below_set ?_ GE163.out) | exact HB.out)))); (case aL => have := LMc83.out; omega); intro v208 w148 ho hb hg hat; rw [← Ny207.out] at ho; have n0_ := Aside0.mk (Kd.R_after (ok := (fun k_ => some k_ ≠ (.slice (some ⟨go76, 0, none⟩) y187.length co139 : Value).ownBlock ∧ some k_ ≠ (v202 : Value).ownBlock)) (by (with_reducible repeat (first | apply Kd.R_alloc | apply Kd.R_drewN | apply Kd.R_drew)); exact HO_12.out) hg hat); have n1_ := Aside0.mk (blk_grown (g := gb163) (o := .cells #[.slice A0_0 l0_0.length c0_0, .slice A0_1 l0_1.length c0_1] 35 (0, 0)) (by (with_reducible repeat (first | refine blk_drewN ?_ _ | refine blk_drew ?_ | refine blk_alloc ?_ _)); exact BK163.out) hg (Kd.R_ne HO206.out BK163.out (by decide))); have n2_ := Aside0.mk (Kd.R_after (ok := (fun k_ => some k_ ≠ (.slice (some ad200) t165.length co134 : Value).ownBlock ∧ some k_ ≠ (v202 : Value).ownBlock)) (by (with_reducible repeat (first | apply Kd.R_alloc | apply Kd.R_drewN | apply Kd.R_drew)); exact HO189.out) hg hat); have n3_ := Aside0.mk (Kd.R_after (ok := (fun k_ => some k_ ≠ (.slice (some ad200) t165.length co134 : Value).ownBlock ∧ some k_ ≠ (.slice (some ⟨go76, 0, none⟩) y187.length co139 : Value).ownBlock)) (by (with_reducible repeat (first | apply Kd.R_alloc | apply Kd.R_drewN | apply Kd.R_drew)); exact HO203.out) hg hat); have n4_ := Aside0.mk (hb); have n5_ := Aside0.mk (ho); clear HO_12; clear BK163; clear HO189; clear HO203; clear HB; clear HO206; have HO_12 := n0_; have BK163 := n1_; have HO189 := n2_; have HO203 := n3_; have HB := n4_; have HO209 := n5_; clear n0_ n1_ n2_ n3_ n4_ n5_; clear ho hb hg hat; have p85 : 0 ≤ (t182 : Int) := of_decide_eq_true (by first | (with_reducible assumption) | assumption); have q85 : (t182 : Int) < ((y207.length : Int) : Int) := of_decide_eq_true (by first | (with_reducible assumption) | assumption); obtain ⟨go85, co85, eo85, gb85, gl85, cl85, HG85⟩ := Kd.R_form HO209.out (by omega); (first | cases eo85 | (injection eo85 with ea_ en_ ec_; (first | subst ea_ | (injection ea_ with ea_; subst ea_)); subst ec_; clear en_)); have GB85 := Aside0.mk gb85; have GG85 := Aside0.mk HG85; clear gb85 gl85 HG85; obtain ⟨ce85, hcl85, hM85, hcc85, hfr85⟩ := Kd.R_elem HO209.out z25 (t182 : Int) p85 q85; obtain rfl := k25_openM hM85; have hx85_0 : w148.cell? ⟨go85, (t182 : Int).toNat * 4, none⟩ = some (.string ((rd_T25 y207 t182).f0)) := hcc85 0 _ rfl; have hx85_1 : w148.cell? ⟨go85, (t182 : Int).toNat * 4 + 1, none⟩ = some (.bool ((rd_T25 y207 t182).f1.f0)) := hcc85 1 _ rfl; have hx85_2 : w148.cell? ⟨go85, (t182 : Int).toNat * 4 + 2, none⟩ = some (.int .i64 ((rd_T25 y207 t182).f1.f1)) := hcc85 2 _ rfl; have hx85_3 : w148.cell? ⟨go85, (t182 : Int).toNat * 4 + 3, none⟩ = some (.string ((rd_T25 y207 t182).f1.f2)) := hcc85 3 _ rfl; have hf85_0 : w148.frozen? ⟨go85, (t182 : Int).toNat * 4, none⟩ = false := hfr85 0; have hf85_1 : w148.frozen? ⟨go85, (t182 : Int).toNat * 4 + 1, none⟩ = false := hfr85 1; have hf85_2 : w148.frozen? ⟨go85, (t182 : Int).toNat * 4 + 2, none⟩ = false := hfr85 2; have hf85_3 : w148.frozen? ⟨go85, (t182 : Int).toNat * 4 + 3, none⟩ = false := hfr85 3; clear hcl85 hcc85 hfr85 hM85; replace p85 := eq_true p85; replace q85 := eq_true q85; have HX149 := Aside0.mk (show Kd.R k25 25 w148 w.heap.size (fun k_ => some k_ ≠ (.slice (some ad200) t165.length co134 : Value).ownBlock ∧ some k_ ≠ (.slice (some ⟨go76, 0, none⟩) y187.length co139 : Value).ownBlock ∧ some k_ ≠ (v202 : Value).ownBlock) (.slice (some ⟨go85, 0, none⟩) y207.length co85) y207 from (by (with_reducible repeat (first | apply Kd.R_alloc | apply Kd.R_drewN | apply Kd.R_drew)); exact HO209.out)); obtain ⟨ce149, hcl149, hM149, hcc149, hfr149⟩ := Kd.R_elem HX149.out z25 (t182 : Int) (of_decide_eq_true (by first | (with_reducible assumption) | assumption)) (by have h_ : (t182 : Int) < ((y207.length : Int) : Int) := of_decide_eq_true (by first | (with_reducible assumption) | assumption); first | exact h_ | (have e_ := (Kd.R_reads' HO209.out).1; omega) | simpa using h_); obtain rfl := k25_openM hM149; have HP149 := Kd.R_seg HX149.out (t182 : Int) (of_decide_eq_true (by first | (with_reducible assumption) | assumption)) (by have h_ : (t182 : Int) < ((y207.length : Int) : Int) := of_decide_eq_true (by first | (with_reducible assumption) | assumption); first | exact h_ | (have e_ := (Kd.R_reads' HO209.out).1; omega) | simpa using h_) (seg := [.bool false, .int .i64 1, .string (⟨#[120]⟩ : ByteArray)]) (j := 1) hcl149 hcc149 (show 4 ≤ 4 from by decide) (x' := (⟨(rd_T25 y207 t182).f0, (⟨false, 1, (⟨#[120]⟩ : ByteArray)⟩ : S23)⟩ : S25)) (k25_mkM _ _ _ (⟨(rd_T25 y207 t182).f0, (⟨false, 1, (⟨#[120]⟩ : ByteArray)⟩ : S23)⟩ : S25) ) (fun _ hk => hk); have hx149_1 := hcc149 1 _ rfl; (try simp only [show (k25).sz = 4 from rfl, Nat.mul_one, Nat.add_zero] at hx149_1); have hf149_1 := hfr149 1; (try simp only [show (k25).sz = 4 from rfl, Nat.mul_one, Nat.add_zero] at hf149_1); have hx149_2 := hcc149 2 _ rfl; (try simp only [show (k25).sz = 4 from rfl, Nat.mul_one, Nat.add_zero] at hx149_2); have hf149_2 := hfr149 2; (try simp only [show (k25).sz = 4 from rfl, Nat.mul_one, Nat.add_zero] at hf149_2); have hx149_3 := hcc149 3 _ rfl; (try simp only [show (k25).sz = 4 from rfl, Nat.mul_one, Nat.add_zero] at hx149_3); have hf149_3 := hfr149 3; (try simp only [show (k25).sz = 4 from rfl, Nat.mul_one, Nat.add_zero] at hf149_3); clear hcl149 hcc149 hfr149 hM149) | ((with_reducible refine gate_store (t := 23) (p := 106) rfl ?_); refine store_event (t := 23) (p := 106) (v := ?vo_w150) (w1 := (((w148.setCell ⟨go85, (t182 : Int).toNat * 4 + 1, none⟩ (.bool false)).setCell ⟨go85, (t182 : Int).toNat * 4 + 2, none⟩ (.int .i64 1)).setCell ⟨go85, (t182 : Int).toNat * 4 + 3, none⟩ (.string (⟨#[120]⟩ : ByteArray)))) ?hg ?ho ?hn ?hr ?_; (case ho => rfl); (case hg => rfl); (case hn => rfl); (case hr => first | (go_simp; done) | (go_simp; rfl)); intro w150 hw; have hg : w148.grownBy w150 (some go85) := (by rw [hw]; exact HP149.2); have hp_ : Kd.R k25 25 w150 w.heap.size (fun k_ => some k_ ≠ (.slice (some ad200) t165.length co134 : Value).ownBlock ∧ some k_ ≠ (.slice (some ⟨go76, 0, none⟩) y187.length co139 : Value).ownBlock ∧ some k_ ≠ (v202 : Value).ownBlock) (.slice (some ⟨go85, 0, none⟩) y207.length co85) y210 := (by rw [hw, Ny210.out]; exact HP149.1); clear HP149; have n0_ := Aside0.mk (Kd.R_after (v := (.slice (some ⟨go85, 0, none⟩) y207.length co85)) (v1 := (.slice (some ⟨go85, 0, none⟩) y207.length co85)) (ok := (fun k_ => some k_ ≠ (.slice (some ⟨go76, 0, none⟩) y187.length co139 : Value).ownBlock ∧ some k_ ≠ (v202 : Value).ownBlock)) (by (with_reducible repeat (first | apply Kd.R_alloc | apply Kd.R_drewN | apply Kd.R_drew)); exact HO_12.out) hg (.inl rfl)); have n1_ := Aside0.mk (blk_grown (g := gb163) (o := .cells #[.slice A0_0 l0_0.length c0_0, .slice A0_1 l0_1.length c0_1] 35 (0, 0)) (by (with_reducible repeat (first | refine blk_drewN ?_ _ | refine blk_drew ?_ | refine blk_alloc ?_ _)); exact BK163.out) hg (Kd.R_ne HO209.out BK163.out (by decide))); have n2_ := Aside0.mk (Kd.R_after (v := (.slice (some ⟨go85, 0, none⟩) y207.length co85)) (v1 := (.slice (some ⟨go85, 0, none⟩) y207.length co85)) (ok := (fun k_ => some k_ ≠ (.slice (some ad200) t165.length co134 : Value).ownBlock ∧ some k_ ≠ (v202 : Value).ownBlock)) (by (with_reducible repeat (first | apply Kd.R_alloc | apply Kd.R_drewN | apply Kd.R_drew)); exact HO189.out) hg (.inl rfl)); have n3_ := Aside0.mk (Kd.R_after (v := (.slice (some ⟨go85, 0, none⟩) y207.length co85)) (v1 := (.slice (some ⟨go85, 0, none⟩) y207.length co85)) (ok := (fun k_ => some k_ ≠ (.slice (some ad200) t165.length co134 : Value).ownBlock ∧ some k_ ≠ (.slice (some ⟨go76, 0, none⟩) y187.length co139 : Value).ownBlock)) (by (with_reducible repeat (first | apply Kd.R_alloc | apply Kd.R_drewN | apply Kd.R_drew)); exact HO203.out) hg (.inl rfl)); have n4_ := Aside0.mk (hp_); have n5_ := Aside0.mk ((by rw [hw]; exact below_set (below_set (below_set (HB.out) GB85.out) GB85.out) GB85.out : Below w.heap.size w w150)); clear HO_12; clear BK163; clear HO189; clear HO203; clear HO209; clear HB; have HO_12 := n0_; have BK163 := n1_; have HO189 := n2_; have HO203 := n3_; have HO209 := n4_; have HB := n5_; clear n0_ n1_ n2_ n3_ n4_ n5_; clear hg hw hp_) | ((with_reducible refine gate_callee (f := 11) rfl ?_); refine goesL_ (some 108) rfl rfl Tryz.func11 (by kernel_rfl) rfl #[.slice (some ⟨go76, 0, none⟩) y193.length co139] rfl (by (try simp only [List.map_toArray, List.map_cons, List.map_nil]); first | done | (rw [show y193.length = y187.length from (Kd.R_reads' HO189.out).1.symm] <;> rfl) | rfl | (simp only [List.length_drop, List.length_take]; rfl)) ?_; (with_reducible refine (tuple_Right.calls kj10 _ _ y193 t211 _ ?side1 ?side2 A86.out).mono ?_); (case side1 => repeat (first | exact (Kd.R_reads' HO189.out).2.2 | (with_reducible refine Kd.C_alloc ?_ _) | (with_reducible refine Kd.C_drewN ?_ _) | (with_reducible refine Kd.C_drew ?_))); (case side2 => rw [show y193.length = y187.length from (Kd.R_reads' HO189.out).1.symm]; exact (Kd.R_reads' HO189.out).2.1); rintro e w151 ⟨rfl, hb⟩; refine ⟨_, rfl, ?_⟩; have n0_ := Aside0.mk (Kd.R_below (by (with_reducible repeat (first | apply Kd.R_alloc | apply Kd.R_drewN | apply Kd.R_drew)); exact HO_12.out) hb); have n1_ := Aside0.mk (Kd.R_below (by (with_reducible repeat (first | apply Kd.R_alloc | apply Kd.R_drewN | apply Kd.R_drew)); exact HO189.out) hb); have n2_ := Aside0.mk (Kd.R_below (by (with_reducible repeat (first | apply Kd.R_alloc | apply Kd.R_drewN | apply Kd.R_drew)); exact HO203.out) hb); have n3_ := Aside0.mk (Kd.R_below (by (with_reducible repeat (first | apply Kd.R_alloc | apply Kd.R_drewN | apply Kd.R_drew)); exact HO209.out) hb); have n4_ := Aside0.mk (blk_below (g := gb163) (o := .cells #[.slice A0_0 l0_0.length c0_0, .slice A0_1 l0_1.length c0_1] 35 (0, 0)) (by (with_reducible repeat (first | refine blk_drewN ?_ _ | refine blk_drew ?_ | refine blk_alloc ?_ _)); exact BK163.out) hb); have n5_ := Aside0.mk (below_step (by repeat (first | (with_reducible first | exact HB.out | apply below_alloc | apply pw_below_drewN | apply below_drew1 | refine below_set ?_ GE163.out) | exact HB.out)) hb); clear HO_12; clear HO189; clear HO203; clear HO209; clear BK163; clear HB; have HO_12 := n0_; have HO189 := n1_; have HO203 := n2_; have HO209 := n3_; have BK163 := n4_; have HB := n5_; clear n0_ n1_ n2_ n3_ n4_ n5_; (try clear hb); (try clear hb2); (try clear hk); (try clear hi); obtain ⟨Ao152, co152, eo152⟩ := Kd.R_slice HO203.out; subst eo152) | (go_at_call 11; (with_reducible refine (tuple_Right.calls kj10 _ _ y201 false _ ?side1 ?side2 A88.out).mono ?_); (case side1 => repeat (first | exact (Kd.R_reads' HO203.out).2.2 | (with_reducible refine Kd.C_alloc ?_ _) | (with_reducible refine Kd.C_drewN ?_ _) | (with_reducible refine Kd.C_drew ?_))); (case side2 => exact (Kd.R_reads' HO203.out).2.1); rintro e w153 ⟨rfl, hb⟩; have n0_ := Aside0.mk (Kd.R_below (by (with_reducible repeat (first | apply Kd.R_alloc | apply Kd.R_drewN | apply Kd.R_drew)); exact HO_12.out) hb); have n1_ := Aside0.mk (Kd.R_below (by (with_reducible repeat (first | apply Kd.R_alloc | apply Kd.R_drewN | apply Kd.R_drew)); exact HO189.out) hb); have n2_ := Aside0.mk (Kd.R_below (by (with_reducible repeat (first | apply Kd.R_alloc | apply Kd.R_drewN | apply Kd.R_drew)); exact HO203.out) hb); have n3_ := Aside0.mk (Kd.R_below (by (with_reducible repeat (first | apply Kd.R_alloc | apply Kd.R_drewN | apply Kd.R_drew)); exact HO209.out) hb); have n4_ := Aside0.mk (blk_below (g := gb163) (o := .cells #[.slice A0_0 l0_0.length c0_0, .slice A0_1 l0_1.length c0_1] 35 (0, 0)) (by (with_reducible repeat (first | refine blk_drewN ?_ _ | refine blk_drew ?_ | refine blk_alloc ?_ _)); exact BK163.out) hb); have n5_ := Aside0.mk (below_step (by repeat (first | (with_reducible first | exact HB.out | apply below_alloc | apply pw_below_drewN | apply below_drew1 | refine below_set ?_ GE163.out) | exact HB.out)) hb); clear HO_12; clear HO189; clear HO203; clear HO209; clear BK163; clear HB; have HO_12 := n0_; have HO189 := n1_; have HO203 := n2_; have HO209 := n3_; have BK163 := n4_; have HB := n5_; clear n0_ n1_ n2_ n3_ n4_ n5_; (try clear hb); (try clear hb2); (try clear hk); (try clear hi)) | (go_at_call 11; refine calls_of_args (args' := #[.slice (some ⟨go85, 0, none⟩) y210.length co85]) (by first | (rw [show y210.length = y207.length from (Kd.R_reads' HO209.out).1.symm] <;> rfl) | rfl) ?_; (with_reducible refine (tuple_Right.calls kj10 _ _ y210 false _ ?side1 ?side2 A110.out).mono ?_); (case side1 => repeat (first | exact (Kd.R_reads' HO209.out).2.2 | (with_reducible refine Kd.C_alloc ?_ _) | (with_reducible refine Kd.C_drewN ?_ _) | (with_reducible refine Kd.C_drew ?_))); (case side2 => rw [show y210.length = y207.length from (Kd.R_reads' HO209.out).1.symm]; exact (Kd.R_reads' HO209.out).2.1); rintro e w154 ⟨rfl, hb⟩; have n0_ := Aside0.mk (Kd.R_below (by (with_reducible repeat (first | apply Kd.R_alloc | apply Kd.R_drewN | apply Kd.R_drew)); exact HO_12.out) hb); have n1_ := Aside0.mk (Kd.R_below (by (with_reducible repeat (first | apply Kd.R_alloc | apply Kd.R_drewN | apply Kd.R_drew)); exact HO189.out) hb); have n2_ := Aside0.mk (Kd.R_below (by (with_reducible repeat (first | apply Kd.R_alloc | apply Kd.R_drewN | apply Kd.R_drew)); exact HO203.out) hb); have n3_ := Aside0.mk (Kd.R_below (by (with_reducible repeat (first | apply Kd.R_alloc | apply Kd.R_drewN | apply Kd.R_drew)); exact HO209.out) hb); have n4_ := Aside0.mk (blk_below (g := gb163) (o := .cells #[.slice A0_0 l0_0.length c0_0, .slice A0_1 l0_1.length c0_1] 35 (0, 0)) (by (with_reducible repeat (first | refine blk_drewN ?_ _ | refine blk_drew ?_ | refine blk_alloc ?_ _)); exact BK163.out) hb); have n5_ := Aside0.mk (below_step (by repeat (first | (with_reducible first | exact HB.out | apply below_alloc | apply pw_below_drewN | apply below_drew1 | refine below_set ?_ GE163.out) | exact HB.out)) hb); clear HO_12; clear HO189; clear HO203; clear HO209; clear BK163; clear HB; have HO_12 := n0_; have HO189 := n1_; have HO203 := n2_; have HO209 := n3_; have BK163 := n4_; have HB := n5_; clear n0_ n1_ n2_ n3_ n4_ n5_; (try clear hb); (try clear hb2); (try clear hk); (try clear hi)) | (go_at_call 3; (with_reducible refine (broadsidelaw3_TupleRuns.calls kj10  t214 _ (Val.tb HTAB (by repeat (first | (with_reducible first | exact HB.out | apply below_alloc | apply pw_below_drewN | apply below_drew1 | refine below_set ?_ GE163.out) | exact HB.out))) A133.out).mono ?_); rintro e w155 ⟨rfl, hb⟩; have n0_ := Aside0.mk (Kd.R_below (by (with_reducible repeat (first | apply Kd.R_alloc | apply Kd.R_drewN | apply Kd.R_drew)); exact HO_12.out) hb); have n1_ := Aside0.mk (Kd.R_below (by (with_reducible repeat (first | apply Kd.R_alloc | apply Kd.R_drewN | apply Kd.R_drew)); exact HO189.out) hb); have n2_ := Aside0.mk (Kd.R_below (by (with_reducible repeat (first | apply Kd.R_alloc | apply Kd.R_drewN | apply Kd.R_drew)); exact HO203.out) hb); have n3_ := Aside0.mk (Kd.R_below (by (with_reducible repeat (first | apply Kd.R_alloc | apply Kd.R_drewN | apply Kd.R_drew)); exact HO209.out) hb); have n4_ := Aside0.mk (blk_below (g := gb163) (o := .cells #[.slice A0_0 l0_0.length c0_0, .slice A0_1 l0_1.length c0_1] 35 (0, 0)) (by (with_reducible repeat (first | refine blk_drewN ?_ _ | refine blk_drew ?_ | refine blk_alloc ?_ _)); exact BK163.out) hb); have n5_ := Aside0.mk (below_step (by repeat (first | (with_reducible first | exact HB.out | apply below_alloc | apply pw_below_drewN | apply below_drew1 | refine below_set ?_ GE163.out) | exact HB.out)) hb); clear HO_12; clear HO189; clear HO203; clear HO209; clear BK163; clear HB; have HO_12 := n0_; have HO189 := n1_; have HO203 := n2_; have HO209 := n3_; have BK163 := n4_; have HB := n5_; clear n0_ n1_ n2_ n3_ n4_ n5_; (try clear hb); (try clear hb2); (try clear hk); (try clear hi)))
                                            go_ret
                                            exact ⟨by first | rfl | (simp [errW_none, errW_some] <;> rfl) | (simp only [← hji79]; first | rfl | (simp [errW_none, errW_some] <;> rfl)) | (simp [*, errW_none, errW_some] <;> rfl), by repeat (first | (with_reducible first | exact HB.out | apply below_alloc | apply pw_below_drewN | apply below_drew1 | refine below_set ?_ GE163.out) | exact HB.out)⟩
                                      · rw [if_neg c87] at H
                                        exact absurd ((Option.some.inj H).trans HRT.out) (by decide)
                                    · rw [if_neg c84] at H
                                      exact absurd H (by simp)
                                  · rw [if_neg c83] at H
                                    exact absurd H (by simp)
                                · rw [if_neg c82] at H
                                  exact absurd H (by simp)
                              · rw [if_neg c81] at H
                                exact absurd H (by simp)
                            · rw [if_neg c80] at H
                              exact absurd H (by simp)
                          · rw [if_neg c78] at H
                            exact absurd H (by simp)
                        · rw [if_neg c75] at H
                          exact absurd H (by simp)
                      · rw [if_neg c74] at H
                        exact absurd H (by simp)
                    · rw [if_neg c73] at H
                      exact absurd H (by simp)
                  · rw [if_neg c72] at H
                    exact absurd H (by simp)
                · rw [if_neg c71] at H
                  exact absurd H (by simp)

end Go.Proofs.YtgdieejhglhkcaaGreatDoor.MTup
