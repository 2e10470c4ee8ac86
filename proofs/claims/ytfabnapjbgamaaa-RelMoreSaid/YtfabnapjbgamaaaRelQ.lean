import Derived.Test.YtfabnapjbgamaaaRelP
namespace Go.Proofs.Ytfabnapjbgamaaa.MRelTrue
open Go.RowKit Go.Proofs.YtfabnapjbgamaaaW.PrintWords Go.Proofs.YtfabnapjbgamaaaW.PrintLast Go.Proofs.YtfabnapjbgamaaaW.PrintMore
attribute [local go_sem] max2_int min2_int max_two min_two max_three min_three max_four min_four   -- for this text's walks alone
set_option linter.unusedVariables false
set_option linter.unusedSimpArgs false

/-! ### broadsidelaw5_RelMore: function 7 -/
mutual
def broadsidelaw5_RelMore.j0 : Nat → Int → List (S23) → List (S23) → List Int → List Int → Option (Bool)
  | 0, _, _, _, _, _ => none
  | k + 1, x1, x9, x10, x186000, x186001 => (some (([] : List (S23)) : List (S23))).bind fun y196 => (if y196.length + x9.length < 2513169434916 then ((some (y196 ++ x9 : List (S23))).bind fun y199 => ((broadsidekeep_Constraint.f (⟨#[122]⟩ : ByteArray) x1).bind fun bt202 => (if y199.length < 2513169434916 then ((some (y199 ++ [(⟨bt202.1, bt202.2.1, bt202.2.2.1, bt202.2.2.2.1, bt202.2.2.2.2⟩ : S23)] : List (S23))).bind fun y207 => ((broadsidekeep_Tuple_Tuple.f k x186000 x186001).bind fun t210 => (if (t210.length : Int) = 5 then (if 1 ≤ (t210.length : Int) then (broadsidelaw5_RelMore.j1 k x9 x10 y207 (t210.drop (1 : Int).toNat)) else (none)) else (broadsidelaw5_RelMore.j1 k x9 x10 y207 t210)))) else (none)))) else (none))
def broadsidelaw5_RelMore.j1 : Nat → List (S23) → List (S23) → List (S23) → List (S42) → Option (Bool)
  | 0, _, _, _, _ => none
  | k + 1, x9, x10, x11, x12 => (some (([] : List (S42)) : List (S42))).bind fun y216 => (if y216.length + x12.length < 2932031007402 then ((some (y216 ++ x12 : List (S42))).bind fun y219 => (if y219.length < 2932031007402 then ((rel_Covers.f x9 x11).bind fun t225 => (if t225 = true then ((rel_Covers.f x11 x9).bind fun t226 => (if t226 = true then (broadsidelaw5_RelMore.j2 k x9 x10 x11 true) else ((rel_Match.f k x11 x12).bind fun t227 => (if t227 = true then (broadsidelaw5_RelMore.j2 k x9 x10 x11 true) else ((rel_Match.f k x9 x12).bind fun t228 => ((rel_Match.f k x9 (y219 ++ [(⟨(⟨#[122, 122]⟩ : ByteArray), (⟨false, 1, (⟨#[]⟩ : ByteArray)⟩ : S40)⟩ : S42)])).bind fun t229 => (broadsidelaw5_RelMore.j2 k x9 x10 x11 (t228 != t229)))))))) else (broadsidelaw5_RelMore.j2 k x9 x10 x11 true))) else (none))) else (none))
def broadsidelaw5_RelMore.j2 : Nat → List (S23) → List (S23) → List (S23) → Bool → Option (Bool)
  | 0, _, _, _, _ => none
  | k + 1, x9, x10, x11, x69 => if x69 = true then (some false) else ((rel_Meets.f k x11 x10).bind fun t230 => (if t230 = true then ((rel_Meets.f k x9 x10).bind fun t231 => (broadsidelaw5_RelMore.j3 k x9 (!t231))) else (broadsidelaw5_RelMore.j3 k x9 false)))
def broadsidelaw5_RelMore.j3 : Nat → List (S23) → Bool → Option (Bool)
  | 0, _, _ => none
  | k + 1, x9, x78 => if x78 = true then (some false) else ((some (([(⟨#[117]⟩ : ByteArray), (⟨#[118]⟩ : ByteArray), (⟨#[119]⟩ : ByteArray), (⟨#[120]⟩ : ByteArray), (⟨#[121]⟩ : ByteArray)] : List ByteArray) : List ByteArray)).bind fun y232 => (broadsidelaw5_RelMore.l0 k x9 ([] : List (S23)) y232 (y232.length : Int) 0))
def broadsidelaw5_RelMore.l0 : Nat → List (S23) → List (S23) → List ByteArray → Int → Int → Option (Bool)
  | 0, _, _, _, _, _ => none
  | k + 1, x9, x14, x79, x80, x81 => if x81 < x80 then (if 0 ≤ x81 then (if x81 < (x79.length : Int) then (if x14.length < 2513169434916 then (broadsidelaw5_RelMore.l0 k x9 (x14 ++ [(⟨rdOf ByteArray.empty x79 x81, 3, 0, 0, (⟨#[]⟩ : ByteArray)⟩ : S23)]) x79 x80 (wrap64 (x81 + 1))) else (none)) else (none)) else (none)) else ((rel_Meets.f k x14 x9).bind fun t239 => (if (t239 == ((x9.length : Int) == 0)) = true then (if 3 ≤ (x14.length : Int) then ((rel_Meets.f k x14 (x14.take 3)).bind fun t244 => (if t244 = true then ((broadsidelaw5_RelRuns.f).bind fun t245 => (some t245)) else (some false))) else (none)) else (some false)))
end
def broadsidelaw5_RelMore.f (k : Nat) (l0_0 : List Int) (l0_1 : List Int) (a1 : Int) (l2_0 : List Int) (l2_1 : List Int) (l3_0 : List Int) (l3_1 : List Int) : Option (Bool) := (broadsidekeep_Pred_Pred.f k l0_0 l0_1).bind fun t187 => ((broadsidekeep_Pred_Pred.f k l3_0 l3_1).bind fun t190 => (if (t187.length : Int) = 5 then (if 1 ≤ (t187.length : Int) then (broadsidelaw5_RelMore.j0 k a1 (t187.drop (1 : Int).toNat) t190 l2_0 l2_1) else (none)) else (broadsidelaw5_RelMore.j0 k a1 t187 t190 l2_0 l2_1)))
theorem broadsidelaw5_RelMore.mono_l : ∀ k, (∀ y0 y1 y2 y3 y4, LeO (broadsidelaw5_RelMore.j0 k y0 y1 y2 y3 y4) (broadsidelaw5_RelMore.j0 (k + 1) y0 y1 y2 y3 y4)) ∧ (∀ y0 y1 y2 y3, LeO (broadsidelaw5_RelMore.j1 k y0 y1 y2 y3) (broadsidelaw5_RelMore.j1 (k + 1) y0 y1 y2 y3)) ∧ (∀ y0 y1 y2 y3, LeO (broadsidelaw5_RelMore.j2 k y0 y1 y2 y3) (broadsidelaw5_RelMore.j2 (k + 1) y0 y1 y2 y3)) ∧ (∀ y0 y1, LeO (broadsidelaw5_RelMore.j3 k y0 y1) (broadsidelaw5_RelMore.j3 (k + 1) y0 y1)) ∧ (∀ y0 y1 y2 y3 y4, LeO (broadsidelaw5_RelMore.l0 k y0 y1 y2 y3 y4) (broadsidelaw5_RelMore.l0 (k + 1) y0 y1 y2 y3 y4))
  | 0 => ⟨fun _ _ _ _ _ r h => by simp [broadsidelaw5_RelMore.j0] at h, fun _ _ _ _ r h => by simp [broadsidelaw5_RelMore.j1] at h, fun _ _ _ _ r h => by simp [broadsidelaw5_RelMore.j2] at h, fun _ _ r h => by simp [broadsidelaw5_RelMore.j3] at h, fun _ _ _ _ _ r h => by simp [broadsidelaw5_RelMore.l0] at h⟩
  | k + 1 => by
    obtain ⟨ih0, ih1, ih2, ih3, ih4⟩ := broadsidelaw5_RelMore.mono_l k
    refine ⟨?_, ?_, ?_, ?_, ?_⟩
    · intro y0 y1 y2 y3 y4
      unfold broadsidelaw5_RelMore.j0
      repeat' first
      | (with_reducible exact ih0 _ _ _ _ _)
      | (with_reducible exact ih1 _ _ _ _)
      | (with_reducible exact ih2 _ _ _ _)
      | (with_reducible exact ih3 _ _)
      | (with_reducible exact ih4 _ _ _ _ _)
      | (with_reducible exact broadsidekeep_Pred_Pred.mono _ _ _)
      | (with_reducible exact broadsidekeep_Tuple_Tuple.mono _ _ _)
      | (with_reducible exact rel_Match.mono _ _ _)
      | (with_reducible exact rel_Meets.mono _ _ _)
      | (with_reducible exact LeO.refl _)
      | (with_reducible exact LeO.none _)
      | (with_reducible refine LeO.ite ?_ ?_)
      | (with_reducible refine LeO.bind ?_ (fun _ => ?_))
      | exact ih0 _ _ _ _ _
      | exact ih1 _ _ _ _
      | exact ih2 _ _ _ _
      | exact ih3 _ _
      | exact ih4 _ _ _ _ _
      | exact broadsidekeep_Pred_Pred.mono _ _ _
      | exact broadsidekeep_Tuple_Tuple.mono _ _ _
      | exact rel_Match.mono _ _ _
      | exact rel_Meets.mono _ _ _
      | exact LeO.none _
      | refine LeO.ite ?_ ?_
      | refine LeO.bind ?_ (fun _ => ?_)
    · intro y0 y1 y2 y3
      unfold broadsidelaw5_RelMore.j1
      repeat' first
      | (with_reducible exact ih0 _ _ _ _ _)
      | (with_reducible exact ih1 _ _ _ _)
      | (with_reducible exact ih2 _ _ _ _)
      | (with_reducible exact ih3 _ _)
      | (with_reducible exact ih4 _ _ _ _ _)
      | (with_reducible exact broadsidekeep_Pred_Pred.mono _ _ _)
      | (with_reducible exact broadsidekeep_Tuple_Tuple.mono _ _ _)
      | (with_reducible exact rel_Match.mono _ _ _)
      | (with_reducible exact rel_Meets.mono _ _ _)
      | (with_reducible exact LeO.refl _)
      | (with_reducible exact LeO.none _)
      | (with_reducible refine LeO.ite ?_ ?_)
      | (with_reducible refine LeO.bind ?_ (fun _ => ?_))
      | exact ih0 _ _ _ _ _
      | exact ih1 _ _ _ _
      | exact ih2 _ _ _ _
      | exact ih3 _ _
      | exact ih4 _ _ _ _ _
      | exact broadsidekeep_Pred_Pred.mono _ _ _
      | exact broadsidekeep_Tuple_Tuple.mono _ _ _
      | exact rel_Match.mono _ _ _
      | exact rel_Meets.mono _ _ _
      | exact LeO.none _
      | refine LeO.ite ?_ ?_
      | refine LeO.bind ?_ (fun _ => ?_)
    · intro y0 y1 y2 y3
      unfold broadsidelaw5_RelMore.j2
      repeat' first
      | (with_reducible exact ih0 _ _ _ _ _)
      | (with_reducible exact ih1 _ _ _ _)
      | (with_reducible exact ih2 _ _ _ _)
      | (with_reducible exact ih3 _ _)
      | (with_reducible exact ih4 _ _ _ _ _)
      | (with_reducible exact broadsidekeep_Pred_Pred.mono _ _ _)
      | (with_reducible exact broadsidekeep_Tuple_Tuple.mono _ _ _)
      | (with_reducible exact rel_Match.mono _ _ _)
      | (with_reducible exact rel_Meets.mono _ _ _)
      | (with_reducible exact LeO.refl _)
      | (with_reducible exact LeO.none _)
      | (with_reducible refine LeO.ite ?_ ?_)
      | (with_reducible refine LeO.bind ?_ (fun _ => ?_))
      | exact ih0 _ _ _ _ _
      | exact ih1 _ _ _ _
      | exact ih2 _ _ _ _
      | exact ih3 _ _
      | exact ih4 _ _ _ _ _
      | exact broadsidekeep_Pred_Pred.mono _ _ _
      | exact broadsidekeep_Tuple_Tuple.mono _ _ _
      | exact rel_Match.mono _ _ _
      | exact rel_Meets.mono _ _ _
      | exact LeO.none _
      | refine LeO.ite ?_ ?_
      | refine LeO.bind ?_ (fun _ => ?_)
    · intro y0 y1
      unfold broadsidelaw5_RelMore.j3
      repeat' first
      | (with_reducible exact ih0 _ _ _ _ _)
      | (with_reducible exact ih1 _ _ _ _)
      | (with_reducible exact ih2 _ _ _ _)
      | (with_reducible exact ih3 _ _)
      | (with_reducible exact ih4 _ _ _ _ _)
      | (with_reducible exact broadsidekeep_Pred_Pred.mono _ _ _)
      | (with_reducible exact broadsidekeep_Tuple_Tuple.mono _ _ _)
      | (with_reducible exact rel_Match.mono _ _ _)
      | (with_reducible exact rel_Meets.mono _ _ _)
      | (with_reducible exact LeO.refl _)
      | (with_reducible exact LeO.none _)
      | (with_reducible refine LeO.ite ?_ ?_)
      | (with_reducible refine LeO.bind ?_ (fun _ => ?_))
      | exact ih0 _ _ _ _ _
      | exact ih1 _ _ _ _
      | exact ih2 _ _ _ _
      | exact ih3 _ _
      | exact ih4 _ _ _ _ _
      | exact broadsidekeep_Pred_Pred.mono _ _ _
      | exact broadsidekeep_Tuple_Tuple.mono _ _ _
      | exact rel_Match.mono _ _ _
      | exact rel_Meets.mono _ _ _
      | exact LeO.none _
      | refine LeO.ite ?_ ?_
      | refine LeO.bind ?_ (fun _ => ?_)
    · intro y0 y1 y2 y3 y4
      unfold broadsidelaw5_RelMore.l0
      repeat' first
      | (with_reducible exact ih0 _ _ _ _ _)
      | (with_reducible exact ih1 _ _ _ _)
      | (with_reducible exact ih2 _ _ _ _)
      | (with_reducible exact ih3 _ _)
      | (with_reducible exact ih4 _ _ _ _ _)
      | (with_reducible exact broadsidekeep_Pred_Pred.mono _ _ _)
      | (with_reducible exact broadsidekeep_Tuple_Tuple.mono _ _ _)
      | (with_reducible exact rel_Match.mono _ _ _)
      | (with_reducible exact rel_Meets.mono _ _ _)
      | (with_reducible exact LeO.refl _)
      | (with_reducible exact LeO.none _)
      | (with_reducible refine LeO.ite ?_ ?_)
      | (with_reducible refine LeO.bind ?_ (fun _ => ?_))
      | exact ih0 _ _ _ _ _
      | exact ih1 _ _ _ _
      | exact ih2 _ _ _ _
      | exact ih3 _ _
      | exact ih4 _ _ _ _ _
      | exact broadsidekeep_Pred_Pred.mono _ _ _
      | exact broadsidekeep_Tuple_Tuple.mono _ _ _
      | exact rel_Match.mono _ _ _
      | exact rel_Meets.mono _ _ _
      | exact LeO.none _
      | refine LeO.ite ?_ ?_
      | refine LeO.bind ?_ (fun _ => ?_)
theorem broadsidelaw5_RelMore.mono : ∀ a0 a1 a2 a3 a4 a5 a6 k, LeO (broadsidelaw5_RelMore.f k a0 a1 a2 a3 a4 a5 a6) (broadsidelaw5_RelMore.f (k + 1) a0 a1 a2 a3 a4 a5 a6) := by
  intro a0 a1 a2 a3 a4 a5 a6 k
  obtain ⟨ih0, ih1, ih2, ih3, ih4⟩ := broadsidelaw5_RelMore.mono_l k
  unfold broadsidelaw5_RelMore.f
  repeat' first
      | (with_reducible exact ih0 _ _ _ _ _)
      | (with_reducible exact ih1 _ _ _ _)
      | (with_reducible exact ih2 _ _ _ _)
      | (with_reducible exact ih3 _ _)
      | (with_reducible exact ih4 _ _ _ _ _)
      | (with_reducible exact broadsidekeep_Pred_Pred.mono _ _ _)
      | (with_reducible exact broadsidekeep_Tuple_Tuple.mono _ _ _)
      | (with_reducible exact rel_Match.mono _ _ _)
      | (with_reducible exact rel_Meets.mono _ _ _)
      | (with_reducible exact LeO.refl _)
      | (with_reducible exact LeO.none _)
      | (with_reducible refine LeO.ite ?_ ?_)
      | (with_reducible refine LeO.bind ?_ (fun _ => ?_))
      | exact ih0 _ _ _ _ _
      | exact ih1 _ _ _ _
      | exact ih2 _ _ _ _
      | exact ih3 _ _
      | exact ih4 _ _ _ _ _
      | exact broadsidekeep_Pred_Pred.mono _ _ _
      | exact broadsidekeep_Tuple_Tuple.mono _ _ _
      | exact rel_Match.mono _ _ _
      | exact rel_Meets.mono _ _ _
      | exact LeO.none _
      | refine LeO.ite ?_ ?_
      | refine LeO.bind ?_ (fun _ => ?_)
set_option maxHeartbeats 8000000 in
set_option maxRecDepth 100000 in
theorem broadsidelaw5_RelMore.calls (k : Nat) (A0_0 : Option Addr) (c0_0 : Nat) (l0_0 : List Int) (A0_1 : Option Addr) (c0_1 : Nat) (l0_1 : List Int) (a1 : Int) (A2_0 : Option Addr) (c2_0 : Nat) (l2_0 : List Int) (A2_1 : Option Addr) (c2_1 : Nat) (l2_1 : List Int) (A3_0 : Option Addr) (c3_0 : Nat) (l3_0 : List Int) (A3_1 : Option Addr) (c3_1 : Nat) (l3_1 : List Int) (r : Bool) (w : World) (hr0_0 : Kd.C (Kd.int .i64) w A0_0 l0_0.length l0_0) (hc0_0 : l0_0.length ≤ c0_0) (hr0_1 : Kd.C (Kd.int .i64) w A0_1 l0_1.length l0_1) (hc0_1 : l0_1.length ≤ c0_1) (hr2_0 : Kd.C (Kd.int .i64) w A2_0 l2_0.length l2_0) (hc2_0 : l2_0.length ≤ c2_0) (hr2_1 : Kd.C (Kd.int .i64) w A2_1 l2_1.length l2_1) (hc2_1 : l2_1.length ≤ c2_1) (hr3_0 : Kd.C (Kd.int .i64) w A3_0 l3_0.length l3_0) (hc3_0 : l3_0.length ≤ c3_0) (hr3_1 : Kd.C (Kd.int .i64) w A3_1 l3_1.length l3_1) (hc3_1 : l3_1.length ≤ c3_1) (h : broadsidelaw5_RelMore.f k l0_0 l0_1 a1 l2_0 l2_1 l3_0 l3_1 = some r) :
    Calls Try.prog 7 #[.agg #[.slice A0_0 l0_0.length c0_0, .slice A0_1 l0_1.length c0_1], .int .i64 a1, .agg #[.slice A2_0 l2_0.length c2_0, .slice A2_1 l2_1.length c2_1], .agg #[.slice A3_0 l3_0.length c3_0, .slice A3_1 l3_1.length c3_1]] w fun e w' => e = .returned (.bool r) ∧ Below w.heap.size w w' := by
  have hu29 := Try.underlying29
  have hu30 := Try.underlying30
  have hu40 := Try.underlying40
  have hu42 := Try.underlying42
  have hu23 := Try.underlying23
  have HR0_0 := Aside0.mk hr0_0
  have HC0_0 := Aside0.mk hc0_0
  clear hr0_0 hc0_0
  have HR0_1 := Aside0.mk hr0_1
  have HC0_1 := Aside0.mk hc0_1
  clear hr0_1 hc0_1
  have HR2_0 := Aside0.mk hr2_0
  have HC2_0 := Aside0.mk hc2_0
  clear hr2_0 hc2_0
  have HR2_1 := Aside0.mk hr2_1
  have HC2_1 := Aside0.mk hc2_1
  clear hr2_1 hc2_1
  have HR3_0 := Aside0.mk hr3_0
  have HC3_0 := Aside0.mk hc3_0
  clear hr3_0 hc3_0
  have HR3_1 := Aside0.mk hr3_1
  have HC3_1 := Aside0.mk hc3_1
  clear hr3_1 hc3_1
  have HB := Aside0.mk (Below.refl w.heap.size w)
  have H : ((broadsidekeep_Pred_Pred.f k l0_0 l0_1).bind fun t187 => ((broadsidekeep_Pred_Pred.f k l3_0 l3_1).bind fun t190 => (if (t187.length : Int) = 5 then (if 1 ≤ (t187.length : Int) then (broadsidelaw5_RelMore.j0 k a1 (t187.drop (1 : Int).toNat) t190 l2_0 l2_1) else (none)) else (broadsidelaw5_RelMore.j0 k a1 t187 t190 l2_0 l2_1)))) = some r := h
  clear h
  replace H := Option.bind_eq_some_iff.mp H
  obtain ⟨t187, A50, H⟩ := H
  replace H : ((broadsidekeep_Pred_Pred.f k l3_0 l3_1).bind fun t190 => (if (t187.length : Int) = 5 then (if 1 ≤ (t187.length : Int) then (broadsidelaw5_RelMore.j0 k a1 (t187.drop (1 : Int).toNat) t190 l2_0 l2_1) else (none)) else (broadsidelaw5_RelMore.j0 k a1 t187 t190 l2_0 l2_1))) = some r := H
  have A5 := Aside0.mk A50
  clear A50
  replace H := Option.bind_eq_some_iff.mp H
  obtain ⟨t190, A60, H⟩ := H
  replace H : (if (t187.length : Int) = 5 then (if 1 ≤ (t187.length : Int) then (broadsidelaw5_RelMore.j0 k a1 (t187.drop (1 : Int).toNat) t190 l2_0 l2_1) else (none)) else (broadsidelaw5_RelMore.j0 k a1 t187 t190 l2_0 l2_1)) = some r := H
  have A6 := Aside0.mk A60
  clear A60
  have HC7 := Aside0.mk H
  clear H
  go_enter Try.func7, Try.ntmps7
  try go_wp2_with (first | ((with_reducible refine gate_dst (N := 4) rfl ?_); refine box_event ?hg (N := 4) ?hd (cs := #[.slice A0_0 l0_0.length c0_0, .slice A0_1 l0_1.length c0_1]) (t := 29) ?hr ?_; (case hd => rfl); (case hg => rfl); (case hr => first | (go_simp; done) | (go_simp; rfl)); intro gb184 hg w8 hbox hb; have n0_ := Aside0.mk (below_step (by repeat (first | (with_reducible first | exact HB.out | apply below_alloc | apply pw_below_drewN | apply below_drew1) | exact HB.out)) hb); have n1_ := Aside0.mk (hbox); have n2_ := Aside0.mk ((by rw [hg]; exact (below_size (by repeat (first | (with_reducible first | exact HB.out | apply below_alloc | apply pw_below_drewN | apply below_drew1) | exact HB.out))) : w.heap.size ≤ gb184)); have n3_ := Aside0.mk ((by rw [hg]; exact (below_size (by repeat (first | (with_reducible first | exact HB.out | apply below_alloc | apply pw_below_drewN | apply below_drew1) | exact HB.out))) : w.heap.size ≤ gb184)); clear HB; have HB := n0_; have BK184 := n1_; have GW184 := n2_; have GE184 := n3_; clear n0_ n1_ n2_ n3_; clear hb hbox hg) | ((with_reducible refine gate_dst (N := 6) rfl ?_); refine box_event ?hg (N := 6) ?hd (cs := #[.slice A2_0 l2_0.length c2_0, .slice A2_1 l2_1.length c2_1]) (t := 30) ?hr ?_; (case hd => rfl); (case hg => rfl); (case hr => first | (go_simp; done) | (go_simp; rfl)); intro gb185 hg w9 hbox hb; have n0_ := Aside0.mk (blk_below (g := gb184) (o := .cells #[.slice A0_0 l0_0.length c0_0, .slice A0_1 l0_1.length c0_1] 29 (0, 0)) (by (with_reducible repeat (first | refine blk_drewN ?_ _ | refine blk_drew ?_ | refine blk_alloc ?_ _)); exact BK184.out) hb); have n1_ := Aside0.mk (below_step (by repeat (first | (with_reducible first | exact HB.out | apply below_alloc | apply pw_below_drewN | apply below_drew1 | refine below_set ?_ GE184.out) | exact HB.out)) hb); have n2_ := Aside0.mk (hbox); have n3_ := Aside0.mk ((by rw [hg]; exact (below_size (by repeat (first | (with_reducible first | exact HB.out | apply below_alloc | apply pw_below_drewN | apply below_drew1 | refine below_set ?_ GE184.out) | exact HB.out))) : w.heap.size ≤ gb185)); have n4_ := Aside0.mk ((by rw [hg]; exact (below_size (by repeat (first | (with_reducible first | exact HB.out | apply below_alloc | apply pw_below_drewN | apply below_drew1 | refine below_set ?_ GE184.out) | exact HB.out))) : w.heap.size ≤ gb185)); have n5_ := Aside0.mk ((by rw [hg]; exact Nat.ne_of_lt (blk_lt (g := gb184) (o := .cells #[.slice A0_0 l0_0.length c0_0, .slice A0_1 l0_1.length c0_1] 29 (0, 0)) (by (with_reducible repeat (first | refine blk_drewN ?_ _ | refine blk_drew ?_ | refine blk_alloc ?_ _)); exact BK184.out)) : gb184 ≠ gb185)); have n6_ := Aside0.mk ((by rw [hg]; exact Nat.ne_of_gt (blk_lt (g := gb184) (o := .cells #[.slice A0_0 l0_0.length c0_0, .slice A0_1 l0_1.length c0_1] 29 (0, 0)) (by (with_reducible repeat (first | refine blk_drewN ?_ _ | refine blk_drew ?_ | refine blk_alloc ?_ _)); exact BK184.out)) : gb185 ≠ gb184)); clear BK184; clear HB; have BK184 := n0_; have HB := n1_; have BK185 := n2_; have GW185 := n3_; have GE185 := n4_; have NB184_185 := n5_; have NB185_184 := n6_; clear n0_ n1_ n2_ n3_ n4_ n5_ n6_; clear hb hbox hg) | ((with_reducible refine gate_dst (N := 7) rfl ?_); refine box_event ?hg (N := 7) ?hd (cs := #[.slice A3_0 l3_0.length c3_0, .slice A3_1 l3_1.length c3_1]) (t := 29) ?hr ?_; (case hd => rfl); (case hg => rfl); (case hr => first | (go_simp; done) | (go_simp; rfl)); intro gb186 hg w10 hbox hb; have n0_ := Aside0.mk (blk_below (g := gb184) (o := .cells #[.slice A0_0 l0_0.length c0_0, .slice A0_1 l0_1.length c0_1] 29 (0, 0)) (by (with_reducible repeat (first | refine blk_drewN ?_ _ | refine blk_drew ?_ | refine blk_alloc ?_ _)); exact BK184.out) hb); have n1_ := Aside0.mk (blk_below (g := gb185) (o := .cells #[.slice A2_0 l2_0.length c2_0, .slice A2_1 l2_1.length c2_1] 30 (0, 0)) (by (with_reducible repeat (first | refine blk_drewN ?_ _ | refine blk_drew ?_ | refine blk_alloc ?_ _)); exact BK185.out) hb); have n2_ := Aside0.mk (below_step (by repeat (first | (with_reducible first | exact HB.out | apply below_alloc | apply pw_below_drewN | apply below_drew1 | refine below_set ?_ GE184.out | refine below_set ?_ GE185.out) | exact HB.out)) hb); have n3_ := Aside0.mk (hbox); have n4_ := Aside0.mk ((by rw [hg]; exact (below_size (by repeat (first | (with_reducible first | exact HB.out | apply below_alloc | apply pw_below_drewN | apply below_drew1 | refine below_set ?_ GE184.out | refine below_set ?_ GE185.out) | exact HB.out))) : w.heap.size ≤ gb186)); have n5_ := Aside0.mk ((by rw [hg]; exact (below_size (by repeat (first | (with_reducible first | exact HB.out | apply below_alloc | apply pw_below_drewN | apply below_drew1 | refine below_set ?_ GE184.out | refine below_set ?_ GE185.out) | exact HB.out))) : w.heap.size ≤ gb186)); have n6_ := Aside0.mk ((by rw [hg]; exact Nat.ne_of_lt (blk_lt (g := gb184) (o := .cells #[.slice A0_0 l0_0.length c0_0, .slice A0_1 l0_1.length c0_1] 29 (0, 0)) (by (with_reducible repeat (first | refine blk_drewN ?_ _ | refine blk_drew ?_ | refine blk_alloc ?_ _)); exact BK184.out)) : gb184 ≠ gb186)); have n7_ := Aside0.mk ((by rw [hg]; exact Nat.ne_of_gt (blk_lt (g := gb184) (o := .cells #[.slice A0_0 l0_0.length c0_0, .slice A0_1 l0_1.length c0_1] 29 (0, 0)) (by (with_reducible repeat (first | refine blk_drewN ?_ _ | refine blk_drew ?_ | refine blk_alloc ?_ _)); exact BK184.out)) : gb186 ≠ gb184)); have n8_ := Aside0.mk ((by rw [hg]; exact Nat.ne_of_lt (blk_lt (g := gb185) (o := .cells #[.slice A2_0 l2_0.length c2_0, .slice A2_1 l2_1.length c2_1] 30 (0, 0)) (by (with_reducible repeat (first | refine blk_drewN ?_ _ | refine blk_drew ?_ | refine blk_alloc ?_ _)); exact BK185.out)) : gb185 ≠ gb186)); have n9_ := Aside0.mk ((by rw [hg]; exact Nat.ne_of_gt (blk_lt (g := gb185) (o := .cells #[.slice A2_0 l2_0.length c2_0, .slice A2_1 l2_1.length c2_1] 30 (0, 0)) (by (with_reducible repeat (first | refine blk_drewN ?_ _ | refine blk_drew ?_ | refine blk_alloc ?_ _)); exact BK185.out)) : gb186 ≠ gb185)); clear BK184; clear BK185; clear HB; have BK184 := n0_; have BK185 := n1_; have HB := n2_; have BK186 := n3_; have GW186 := n4_; have GE186 := n5_; have NB184_186 := n6_; have NB186_184 := n7_; have NB185_186 := n8_; have NB186_185 := n9_; clear n0_ n1_ n2_ n3_ n4_ n5_ n6_ n7_ n8_ n9_; clear hb hbox hg))
  have n0_ := Aside0.mk (blk_drew BK184.out)
  have n1_ := Aside0.mk (blk_drew BK185.out)
  have n2_ := Aside0.mk (blk_drew BK186.out)
  have n3_ := Aside0.mk (below_drew1 HB.out)
  clear BK184
  clear BK185
  clear BK186
  clear HB
  have BK184 := n0_
  have BK185 := n1_
  have BK186 := n2_
  have HB := n3_
  clear n0_ n1_ n2_ n3_
  refine start_ (n := 6) (S := fun w' => w'.cell? ⟨gb184, 0, none⟩ = some (.slice A0_0 l0_0.length c0_0) ∧ w'.cell? ⟨gb184, 1, none⟩ = some (.slice A0_1 l0_1.length c0_1) ∧ w'.cell? ⟨gb186, 0, none⟩ = some (.slice A3_0 l3_0.length c3_0) ∧ w'.cell? ⟨gb186, 1, none⟩ = some (.slice A3_1 l3_1.length c3_1)) (ds := []) #[false, false, false, false, false, false] (by kernel_rfl) rfl rfl ⟨(blk_cell BK184.out 0).trans rfl, (blk_cell BK184.out 1).trans rfl, (blk_cell BK186.out 0).trans rfl, (blk_cell BK186.out 1).trans rfl⟩ (fun hHeld => ?_)
  generalize w10.drew = w11 at BK184 BK185 BK186 HB hHeld ⊢
  refine take_ (i := 0) (N := some 17) (v := ?_) (a' := ?_) #[true, false, false, false, false, false] rfl rfl (by kernel_rfl) (fun _ _ _ h => h) (Or.inl ⟨by rfl, ?_⟩) hHeld ?_ ?_
  rotate_left
  · rintro w' ⟨s0, s1, s2, s3⟩
    go_simp
    with_reducible rfl
  rotate_left
  · simp only [Act.put, List.setIfInBounds_toArray, List.set_cons_zero, List.set_cons_succ, i64_w, i32_w]
    rfl
  refine take_ (i := 2) (N := some 19) (v := ?_) (a' := ?_) #[true, false, true, false, false, false] rfl rfl (by kernel_rfl) (fun _ _ _ h => h) (Or.inl ⟨by rfl, ?_⟩) hHeld ?_ ?_
  rotate_left
  · rintro w' ⟨s0, s1, s2, s3⟩
    go_simp
    with_reducible rfl
  rotate_left
  · simp only [Act.put, List.setIfInBounds_toArray, List.set_cons_zero, List.set_cons_succ, i64_w, i32_w]
    rfl
  refine one_ (i := 1) (N := some 18) #[true, true, true, false, false, false] rfl rfl (by kernel_rfl) (by decide) (fun K hK => ?_)
  refine goes_ Try.func12 (by kernel_rfl) rfl #[.agg #[.slice A0_0 l0_0.length c0_0, .slice A0_1 l0_1.length c0_1]] (by rfl) rfl rfl (by (try simp only [List.map_toArray, List.map_cons, List.map_nil]); first | done | rfl | (simp only [List.length_drop, List.length_take]; rfl)) ?_
  with_reducible refine (broadsidekeep_Pred_Pred.calls k _ _ l0_0 _ _ l0_1 t187 _ ?side1 ?side2 ?side3 ?side4 A5.out).mono ?_
  (case side1 => repeat (first | exact (Kd.C_below HR0_0.out HB.out) | (with_reducible refine Kd.C_alloc ?_ _) | (with_reducible refine Kd.C_drewN ?_ _) | (with_reducible refine Kd.C_drew ?_)))
  (case side2 => exact HC0_0.out)
  (case side3 => repeat (first | exact (Kd.C_below HR0_1.out HB.out) | (with_reducible refine Kd.C_alloc ?_ _) | (with_reducible refine Kd.C_drewN ?_ _) | (with_reducible refine Kd.C_drew ?_)))
  (case side4 => exact HC0_1.out)
  rintro e w12 ⟨v188, rfl, ho0, hb⟩
  refine ⟨_, rfl, ?_⟩
  have n0_ := Aside0.mk (Kd.R_lower ho0 (below_size (by repeat (first | (with_reducible first | exact HB.out | apply below_alloc | apply pw_below_drewN | apply below_drew1 | refine below_set ?_ GE184.out | refine below_set ?_ GE185.out | refine below_set ?_ GE186.out) | exact HB.out))))
  have n1_ := Aside0.mk (blk_below (g := gb184) (o := .cells #[.slice A0_0 l0_0.length c0_0, .slice A0_1 l0_1.length c0_1] 29 (0, 0)) (by (with_reducible repeat (first | refine blk_drewN ?_ _ | refine blk_drew ?_ | refine blk_alloc ?_ _)); exact BK184.out) hb)
  have n2_ := Aside0.mk (blk_below (g := gb185) (o := .cells #[.slice A2_0 l2_0.length c2_0, .slice A2_1 l2_1.length c2_1] 30 (0, 0)) (by (with_reducible repeat (first | refine blk_drewN ?_ _ | refine blk_drew ?_ | refine blk_alloc ?_ _)); exact BK185.out) hb)
  have n3_ := Aside0.mk (blk_below (g := gb186) (o := .cells #[.slice A3_0 l3_0.length c3_0, .slice A3_1 l3_1.length c3_1] 29 (0, 0)) (by (with_reducible repeat (first | refine blk_drewN ?_ _ | refine blk_drew ?_ | refine blk_alloc ?_ _)); exact BK186.out) hb)
  have n4_ := Aside0.mk (below_step (by repeat (first | (with_reducible first | exact HB.out | apply below_alloc | apply pw_below_drewN | apply below_drew1 | refine below_set ?_ GE184.out | refine below_set ?_ GE185.out | refine below_set ?_ GE186.out) | exact HB.out)) hb)
  clear BK184
  clear BK185
  clear BK186
  clear HB
  have HO189 := n0_
  have BK184 := n1_
  have BK185 := n2_
  have BK186 := n3_
  have HB := n4_
  clear n0_ n1_ n2_ n3_ n4_
  (try clear hb)
  (try clear hb2)
  (try clear hk)
  (try clear hi)
  (try clear ho0)
  refine hK.out _ _ ⟨(blk_cell BK184.out 0).trans rfl, (blk_cell BK184.out 1).trans rfl, (blk_cell BK186.out 0).trans rfl, (blk_cell BK186.out 1).trans rfl⟩ (fun hHeld => ?_)
  clear hK K
  refine norm_ (a' := ?_) ?_ ?_
  rotate_left
  · show Act.put _ (some 18) _ = _
    simp only [Act.put, List.setIfInBounds_toArray, List.set_cons_zero, List.set_cons_succ, i64_w, i32_w]
    rfl
  refine one_ (i := 3) (N := some 20) #[true, true, true, true, false, false] rfl rfl (by kernel_rfl) (by decide) (fun K hK => ?_)
  refine goes_ Try.func12 (by kernel_rfl) rfl #[.agg #[.slice A3_0 l3_0.length c3_0, .slice A3_1 l3_1.length c3_1]] (by rfl) rfl rfl (by (try simp only [List.map_toArray, List.map_cons, List.map_nil]); first | done | rfl | (simp only [List.length_drop, List.length_take]; rfl)) ?_
  with_reducible refine (broadsidekeep_Pred_Pred.calls k _ _ l3_0 _ _ l3_1 t190 _ ?side1 ?side2 ?side3 ?side4 A6.out).mono ?_
  (case side1 => repeat (first | exact (Kd.C_below HR3_0.out HB.out) | (with_reducible refine Kd.C_alloc ?_ _) | (with_reducible refine Kd.C_drewN ?_ _) | (with_reducible refine Kd.C_drew ?_)))
  (case side2 => exact HC3_0.out)
  (case side3 => repeat (first | exact (Kd.C_below HR3_1.out HB.out) | (with_reducible refine Kd.C_alloc ?_ _) | (with_reducible refine Kd.C_drewN ?_ _) | (with_reducible refine Kd.C_drew ?_)))
  (case side4 => exact HC3_1.out)
  rintro e w13 ⟨v191, rfl, ho0, hb⟩
  refine ⟨_, rfl, ?_⟩
  have n0_ := Aside0.mk (Kd.R_elder' (by (with_reducible repeat (first | apply Kd.R_alloc | apply Kd.R_drewN | apply Kd.R_drew)); exact HO189.out) (Kd.R_base ho0) hb)
  have n1_ := Aside0.mk (Kd.R_lower (Kd.R_new' ho0 (Kd.R_lt (by (with_reducible repeat (first | apply Kd.R_alloc | apply Kd.R_drewN | apply Kd.R_drew)); exact HO189.out))) (below_size (by repeat (first | (with_reducible first | exact HB.out | apply below_alloc | apply pw_below_drewN | apply below_drew1 | refine below_set ?_ GE184.out | refine below_set ?_ GE185.out | refine below_set ?_ GE186.out) | exact HB.out))))
  have n2_ := Aside0.mk (blk_below (g := gb184) (o := .cells #[.slice A0_0 l0_0.length c0_0, .slice A0_1 l0_1.length c0_1] 29 (0, 0)) (by (with_reducible repeat (first | refine blk_drewN ?_ _ | refine blk_drew ?_ | refine blk_alloc ?_ _)); exact BK184.out) hb)
  have n3_ := Aside0.mk (blk_below (g := gb185) (o := .cells #[.slice A2_0 l2_0.length c2_0, .slice A2_1 l2_1.length c2_1] 30 (0, 0)) (by (with_reducible repeat (first | refine blk_drewN ?_ _ | refine blk_drew ?_ | refine blk_alloc ?_ _)); exact BK185.out) hb)
  have n4_ := Aside0.mk (blk_below (g := gb186) (o := .cells #[.slice A3_0 l3_0.length c3_0, .slice A3_1 l3_1.length c3_1] 29 (0, 0)) (by (with_reducible repeat (first | refine blk_drewN ?_ _ | refine blk_drew ?_ | refine blk_alloc ?_ _)); exact BK186.out) hb)
  have n5_ := Aside0.mk (below_step (by repeat (first | (with_reducible first | exact HB.out | apply below_alloc | apply pw_below_drewN | apply below_drew1 | refine below_set ?_ GE184.out | refine below_set ?_ GE185.out | refine below_set ?_ GE186.out) | exact HB.out)) hb)
  clear HO189
  clear BK184
  clear BK185
  clear BK186
  clear HB
  have HO189 := n0_
  have HO192 := n1_
  have BK184 := n2_
  have BK185 := n3_
  have BK186 := n4_
  have HB := n5_
  clear n0_ n1_ n2_ n3_ n4_ n5_
  (try clear hb)
  (try clear hb2)
  (try clear hk)
  (try clear hi)
  (try clear ho0)
  refine hK.out _ _ ⟨(blk_cell BK184.out 0).trans rfl, (blk_cell BK184.out 1).trans rfl, (blk_cell BK186.out 0).trans rfl, (blk_cell BK186.out 1).trans rfl⟩ (fun hHeld => ?_)
  clear hK K
  refine norm_ (a' := ?_) ?_ ?_
  rotate_left
  · show Act.put _ (some 20) _ = _
    simp only [Act.put, List.setIfInBounds_toArray, List.set_cons_zero, List.set_cons_succ, i64_w, i32_w]
    rfl
  refine pure_ (i := 4) (N := some 9) (v := ?_) (a' := ?_) #[true, true, true, true, true, false] rfl rfl (by kernel_rfl) (fun _ _ _ h => h) (Or.inl ⟨by rfl, ?_⟩) ?_ ?_
  rotate_left
  · intro w'
    go_simp
    with_reducible rfl
  rotate_left
  · simp only [Act.put, List.setIfInBounds_toArray, List.set_cons_zero, List.set_cons_succ, i64_w, i32_w]
    rfl
  refine pure_ (i := 5) (N := some 10) (v := ?_) (a' := ?_) #[true, true, true, true, true, true] rfl rfl (by kernel_rfl) (fun _ _ _ h => h) (Or.inl ⟨by rfl, ?_⟩) ?_ ?_
  rotate_left
  · intro w'
    go_simp
    with_reducible rfl
  rotate_left
  · simp only [Act.put, List.setIfInBounds_toArray, List.set_cons_zero, List.set_cons_succ, i64_w, i32_w]
    rfl
  refine done_ (by kernel_rfl) ?_
  obtain ⟨Ao14, co14, eo14⟩ := Kd.R_slice HO189.out
  subst eo14
  go_upto_if 23 with (fail)
  go_cut [9] (fun v9 wc => ∃ (kq : Nat) (x9_6 : List (S23)), Aside0 (broadsidelaw5_RelMore.j0 kq a1 x9_6 t190 l2_0 l2_1 = some r) ∧ Aside0 (kq ≤ k) ∧ Aside0 (Kd.Q k23 23 wc w.heap.size (fun k_ => some k_ ≠ (v191 : Value).ownBlock) v9 x9_6) ∧ Aside0 (Kd.R k23 23 wc w.heap.size (fun k_ => some k_ ≠ (v9 : Value).ownBlock) v191 t190) ∧ Aside0 (wc.heap[gb184]? = some (.cells #[(.slice A0_0 l0_0.length c0_0), (.slice A0_1 l0_1.length c0_1)] 29 (0, 0))) ∧ Aside0 (wc.heap[gb185]? = some (.cells #[(.slice A2_0 l2_0.length c2_0), (.slice A2_1 l2_1.length c2_1)] 30 (0, 0))) ∧ Aside0 (wc.heap[gb186]? = some (.cells #[(.slice A3_0 l3_0.length c3_0), (.slice A3_1 l3_1.length c3_1)] 29 (0, 0))) ∧ Aside0 (Below w.heap.size w wc))
  case first =>
    have H := HC7.out
    clear HC7
    by_cases c15 : (t187.length : Int) = 5
    · rw [if_pos c15] at H
      have c15b0 : ((t187.length : Int) == 5) = true := beq_iff_eq.mpr c15
      have c15b1 : ((t187.length : Int) != 5) = false := bne_eq_false_iff_eq.mpr c15
      clear c15
      (first | rw [c15b0] | (simp only [i64_w, i32_w]; rw [c15b0]) | skip)
      by_cases c16 : 1 ≤ (t187.length : Int)
      · rw [if_pos c16] at H
        have c16b0 := eq_true c16
        have c16b1 : decide (1 ≤ (t187.length : Int)) = true := decide_eq_true c16
        clear c16
        obtain ⟨y193, hy193⟩ : ∃ y_ : List (S23), y_ = (t187.drop (1 : Int).toNat) := ⟨_, rfl⟩
        replace H : (broadsidelaw5_RelMore.j0 k a1 y193 t190 l2_0 l2_1) = some r := by first | (rw [hy193]; with_reducible exact H) | (have H2_ := (Option.bind_some _ _).symm.trans H; rw [hy193]; with_reducible exact H2_) | (have H2_ := (Option.bind_some _ _).symm.trans H; with_reducible exact H2_) | with_reducible exact H | (rw [hy193]; exact H) | exact H
        have Ny193 := Aside0.mk hy193
        clear hy193
        have H' := Aside0.mk H
        clear H
        have n_ := Aside0.mk (Kd.R_mono (ok' := (fun k_ => some k_ ≠ (v191 : Value).ownBlock)) HO189.out (fun k_ hk => hk.2))
        clear HO189
        have HO189 := n_
        clear n_
        have q17 : (1 : Int) ≤ ((t187.length : Int) : Int) := of_decide_eq_true (by first | (with_reducible assumption) | assumption)
        obtain ⟨i017, hi017, _, hsz17, _⟩ := info_parts info23
        have hcut17 := cut_from (P := Try.prog) 25 23 .i64 Try.underlying25 hi017 5 hsz17 Ao14 t187.length co14 1 (by omega) q17
        have hr17 := Kd.Q_drop (k := (1 : Int).toNat) (Kd.Q_of_R HO189.out) (by omega)
        obtain ⟨A17, hA17⟩ : ∃ A1, A1 = (if co14 = (1 : Int).toNat then Ao14 else (Ao14 : Option Addr).map (·.add ((1 : Int).toNat * 5))) := ⟨_, rfl⟩
        obtain ⟨c17, hc17⟩ : ∃ c1, c1 = co14 - (1 : Int).toNat := ⟨_, rfl⟩
        have hy17 : y193.length = t187.length - (1 : Int).toNat := (by rw [Ny193.out, List.length_drop])
        rw [← Ny193.out] at hr17
        rw [← hy17, ← hA17, ← hc17] at hcut17
        replace hr17 : Kd.Q k23 23 w13 w.heap.size (fun k_ => some k_ ≠ (v191 : Value).ownBlock) (.slice A17 y193.length c17) y193 := (by rw [hA17, hc17, hy17]; exact hr17)
        have HE17 : Aside0 ((Value.slice A17 y193.length c17).ownBlock = (.slice Ao14 t187.length co14 : Value).ownBlock) := ⟨by rw [hA17]; split <;> (cases (Ao14 : Option Addr) <;> rfl)⟩
        clear hy17 hi017 hsz17 HO189 hA17 hc17
        have HO195 := Aside0.mk hr17
        clear hr17
        replace q17 := eq_true q17
        have n_ := Aside0.mk (Kd.R_mono (ok' := fun k_ => (True ∧ some k_ ≠ (.slice A17 y193.length c17 : Value).ownBlock)) HO192.out (fun k_ hk => ⟨trivial, (by rw [HE17.out]; exact hk.2)⟩))
        clear HO192
        have HO192 := n_
        clear n_
        go_wp2
        go_meet
        case rel => exact ⟨_, (y193), H', ⟨by first | omega | exact Nat.le_refl _⟩, ⟨by (with_reducible repeat (first | apply Kd.Q_alloc | apply Kd.Q_drewN | apply Kd.Q_drew)); exact HO195.out⟩, ⟨by (with_reducible repeat (first | apply Kd.R_alloc | apply Kd.R_drewN | apply Kd.R_drew)); exact Kd.R_mono HO192.out (fun _ hk => hk.2)⟩, ⟨by (with_reducible repeat (first | refine blk_drewN ?_ _ | refine blk_drew ?_ | refine blk_alloc ?_ _)); exact BK184.out⟩, ⟨by (with_reducible repeat (first | refine blk_drewN ?_ _ | refine blk_drew ?_ | refine blk_alloc ?_ _)); exact BK185.out⟩, ⟨by (with_reducible repeat (first | refine blk_drewN ?_ _ | refine blk_drew ?_ | refine blk_alloc ?_ _)); exact BK186.out⟩, ⟨by repeat (first | (with_reducible first | exact HB.out | apply below_alloc | apply pw_below_drewN | apply below_drew1 | refine below_set ?_ GE184.out | refine below_set ?_ GE185.out | refine below_set ?_ GE186.out) | exact HB.out)⟩⟩
      · rw [if_neg c16] at H
        exact absurd H (by simp)
    · rw [if_neg c15] at H
      have c15b0 : ((t187.length : Int) == 5) = false := beq_eq_false_iff_ne.mpr c15
      have c15b1 : ((t187.length : Int) != 5) = true := bne_iff_ne.mpr c15
      (first | rw [c15b0] | (simp only [i64_w, i32_w]; rw [c15b0]) | skip)
      have H' := Aside0.mk H
      clear H
      go_wp2
      go_meet
      case rel => exact ⟨_, (t187), H', ⟨by first | omega | exact Nat.le_refl _⟩, ⟨Kd.Q_of_R (by (with_reducible repeat (first | apply Kd.R_alloc | apply Kd.R_drewN | apply Kd.R_drew)); exact Kd.R_mono HO189.out (fun _ hk => hk.2))⟩, ⟨by (with_reducible repeat (first | apply Kd.R_alloc | apply Kd.R_drewN | apply Kd.R_drew)); exact Kd.R_mono HO192.out (fun _ hk => hk.2)⟩, ⟨by (with_reducible repeat (first | refine blk_drewN ?_ _ | refine blk_drew ?_ | refine blk_alloc ?_ _)); exact BK184.out⟩, ⟨by (with_reducible repeat (first | refine blk_drewN ?_ _ | refine blk_drew ?_ | refine blk_alloc ?_ _)); exact BK185.out⟩, ⟨by (with_reducible repeat (first | refine blk_drewN ?_ _ | refine blk_drew ?_ | refine blk_alloc ?_ _)); exact BK186.out⟩, ⟨by repeat (first | (with_reducible first | exact HB.out | apply below_alloc | apply pw_below_drewN | apply below_drew1 | refine below_set ?_ GE184.out | refine below_set ?_ GE185.out | refine below_set ?_ GE186.out) | exact HB.out)⟩⟩
  case rest =>
    clear HC7
    try clear c1
    try clear q1
    try clear c2
    try clear p2
    try clear c3
    try clear c7
    try clear c12
    try clear c15
    try clear c15b0
    try clear c15b1
    try clear c16
    try clear c16b0
    try clear c16b1
    try clear c17
    try clear q17
    try clear q17
    obtain ⟨kq, x9_6, HA, HJ6, HO_9, HO_10, BK184, BK185, BK186, HB⟩ := hcut
    cases kq with
    | zero => exact absurd HA.out (by simp [broadsidelaw5_RelMore.j0])
    | succ kj6 =>
      have H := HA.out
      clear HA
      simp only [broadsidelaw5_RelMore.j0] at H
      obtain ⟨y196, hy196⟩ : ∃ y_ : List (S23), y_ = (([] : List (S23))) := ⟨_, rfl⟩
      replace H : (if y196.length + x9_6.length < 2513169434916 then ((some (y196 ++ x9_6 : List (S23))).bind fun y199 => ((broadsidekeep_Constraint.f (⟨#[122]⟩ : ByteArray) a1).bind fun bt202 => (if y199.length < 2513169434916 then ((some (y199 ++ [(⟨bt202.1, bt202.2.1, bt202.2.2.1, bt202.2.2.2.1, bt202.2.2.2.2⟩ : S23)] : List (S23))).bind fun y207 => ((broadsidekeep_Tuple_Tuple.f kj6 l2_0 l2_1).bind fun t210 => (if (t210.length : Int) = 5 then (if 1 ≤ (t210.length : Int) then (broadsidelaw5_RelMore.j1 kj6 x9_6 t190 y207 (t210.drop (1 : Int).toNat)) else (none)) else (broadsidelaw5_RelMore.j1 kj6 x9_6 t190 y207 t210)))) else (none)))) else (none)) = some r := by first | (rw [hy196]; with_reducible exact H) | (have H2_ := (Option.bind_some _ _).symm.trans H; rw [hy196]; with_reducible exact H2_) | (have H2_ := (Option.bind_some _ _).symm.trans H; with_reducible exact H2_) | with_reducible exact H | (rw [hy196]; exact H) | exact H
      have Ny196 := Aside0.mk hy196
      clear hy196
      by_cases c18 : y196.length + x9_6.length < 2513169434916
      · rw [if_pos c18] at H
        have LMc18 := Aside0.mk c18
        clear c18
        obtain ⟨y199, hy199⟩ : ∃ y_ : List (S23), y_ = (y196 ++ x9_6) := ⟨_, rfl⟩
        replace H : ((broadsidekeep_Constraint.f (⟨#[122]⟩ : ByteArray) a1).bind fun bt202 => (if y199.length < 2513169434916 then ((some (y199 ++ [(⟨bt202.1, bt202.2.1, bt202.2.2.1, bt202.2.2.2.1, bt202.2.2.2.2⟩ : S23)] : List (S23))).bind fun y207 => ((broadsidekeep_Tuple_Tuple.f kj6 l2_0 l2_1).bind fun t210 => (if (t210.length : Int) = 5 then (if 1 ≤ (t210.length : Int) then (broadsidelaw5_RelMore.j1 kj6 x9_6 t190 y207 (t210.drop (1 : Int).toNat)) else (none)) else (broadsidelaw5_RelMore.j1 kj6 x9_6 t190 y207 t210)))) else (none))) = some r := by first | (rw [hy199]; with_reducible exact H) | (have H2_ := (Option.bind_some _ _).symm.trans H; rw [hy199]; with_reducible exact H2_) | (have H2_ := (Option.bind_some _ _).symm.trans H; with_reducible exact H2_) | with_reducible exact H | (rw [hy199]; exact H) | exact H
        have Ny199 := Aside0.mk hy199
        clear hy199
        replace H := Option.bind_eq_some_iff.mp H
        obtain ⟨⟨t202, t203, t204, t205, t206⟩, A190, H⟩ := H
        replace H : (if y199.length < 2513169434916 then ((some (y199 ++ [(⟨t202, t203, t204, t205, t206⟩ : S23)] : List (S23))).bind fun y207 => ((broadsidekeep_Tuple_Tuple.f kj6 l2_0 l2_1).bind fun t210 => (if (t210.length : Int) = 5 then (if 1 ≤ (t210.length : Int) then (broadsidelaw5_RelMore.j1 kj6 x9_6 t190 y207 (t210.drop (1 : Int).toNat)) else (none)) else (broadsidelaw5_RelMore.j1 kj6 x9_6 t190 y207 t210)))) else (none)) = some r := H
        have A19 := Aside0.mk A190
        clear A190
        by_cases c20 : y199.length < 2513169434916
        · rw [if_pos c20] at H
          have LMc20 := Aside0.mk c20
          clear c20
          obtain ⟨y207, hy207⟩ : ∃ y_ : List (S23), y_ = (y199 ++ [(⟨t202, t203, t204, t205, t206⟩ : S23)]) := ⟨_, rfl⟩
          replace H : ((broadsidekeep_Tuple_Tuple.f kj6 l2_0 l2_1).bind fun t210 => (if (t210.length : Int) = 5 then (if 1 ≤ (t210.length : Int) then (broadsidelaw5_RelMore.j1 kj6 x9_6 t190 y207 (t210.drop (1 : Int).toNat)) else (none)) else (broadsidelaw5_RelMore.j1 kj6 x9_6 t190 y207 t210))) = some r := by first | (rw [hy207]; with_reducible exact H) | (have H2_ := (Option.bind_some _ _).symm.trans H; rw [hy207]; with_reducible exact H2_) | (have H2_ := (Option.bind_some _ _).symm.trans H; with_reducible exact H2_) | with_reducible exact H | (rw [hy207]; exact H) | exact H
          have Ny207 := Aside0.mk hy207
          clear hy207
          replace H := Option.bind_eq_some_iff.mp H
          obtain ⟨t210, A210, H⟩ := H
          replace H : (if (t210.length : Int) = 5 then (if 1 ≤ (t210.length : Int) then (broadsidelaw5_RelMore.j1 kj6 x9_6 t190 y207 (t210.drop (1 : Int).toNat)) else (none)) else (broadsidelaw5_RelMore.j1 kj6 x9_6 t190 y207 t210)) = some r := H
          have A21 := Aside0.mk A210
          clear A210
          have HC22 := Aside0.mk H
          clear H
          go_upto_if 37 with (first | ((with_reducible refine gate_dst (N := 26) rfl ?_); refine Kd.R_lit k23 _ 23 ?hg (N := 26) ?hd (xs := ([] : List (S23))) (inner := []) (ok := fun _ => True) (okp := fun _ => True) ?hr ?hp (fun _ hk => hk) trivial (Below.refl _ _) (Nat.le_refl _) (by simp) ?_; (case hd => rfl); (case hg => rfl); (case hr => first | (go_simp; done) | (go_simp; rfl)); (case hp => exact (Reps.none _ _)); intro v197 w23 ho24 hb hg_ hnew_; clear hg_ hnew_; (first | rw [← Ny196.out] at ho24 | (simp only [Int.reduceToNat] at ho24; rw [← Ny196.out] at ho24)); have n0_ := Aside0.mk (Kd.Q_elder' (by (with_reducible repeat (first | apply Kd.Q_alloc | apply Kd.Q_drewN | apply Kd.Q_drew)); exact HO_9.out) (Kd.R_base ho24) hb); have n1_ := Aside0.mk (Kd.R_elder' (by (with_reducible repeat (first | apply Kd.R_alloc | apply Kd.R_drewN | apply Kd.R_drew)); exact HO_10.out) (Kd.R_base ho24) hb); have n2_ := Aside0.mk (Kd.R_lower (Kd.R_new' (Kd.R_new' ho24 (Kd.Q_lt (by (with_reducible repeat (first | apply Kd.Q_alloc | apply Kd.Q_drewN | apply Kd.Q_drew)); exact HO_9.out))) (Kd.R_lt (by (with_reducible repeat (first | apply Kd.R_alloc | apply Kd.R_drewN | apply Kd.R_drew)); exact HO_10.out))) (below_size (by repeat (first | (with_reducible first | exact HB.out | apply below_alloc | apply pw_below_drewN | apply below_drew1 | refine below_set ?_ GE184.out | refine below_set ?_ GE185.out | refine below_set ?_ GE186.out) | exact HB.out)))); have n3_ := Aside0.mk (blk_below (g := gb184) (o := .cells #[.slice A0_0 l0_0.length c0_0, .slice A0_1 l0_1.length c0_1] 29 (0, 0)) (by (with_reducible repeat (first | refine blk_drewN ?_ _ | refine blk_drew ?_ | refine blk_alloc ?_ _)); exact BK184.out) hb); have n4_ := Aside0.mk (blk_below (g := gb185) (o := .cells #[.slice A2_0 l2_0.length c2_0, .slice A2_1 l2_1.length c2_1] 30 (0, 0)) (by (with_reducible repeat (first | refine blk_drewN ?_ _ | refine blk_drew ?_ | refine blk_alloc ?_ _)); exact BK185.out) hb); have n5_ := Aside0.mk (blk_below (g := gb186) (o := .cells #[.slice A3_0 l3_0.length c3_0, .slice A3_1 l3_1.length c3_1] 29 (0, 0)) (by (with_reducible repeat (first | refine blk_drewN ?_ _ | refine blk_drew ?_ | refine blk_alloc ?_ _)); exact BK186.out) hb); have n6_ := Aside0.mk (below_step (by repeat (first | (with_reducible first | exact HB.out | apply below_alloc | apply pw_below_drewN | apply below_drew1 | refine below_set ?_ GE184.out | refine below_set ?_ GE185.out | refine below_set ?_ GE186.out) | exact HB.out)) hb); clear HO_9; clear HO_10; clear BK184; clear BK185; clear BK186; clear HB; have HO_9 := n0_; have HO_10 := n1_; have HO198 := n2_; have BK184 := n3_; have BK185 := n4_; have BK186 := n5_; have HB := n6_; clear n0_ n1_ n2_ n3_ n4_ n5_ n6_; clear hb ho24; obtain ⟨Ao26, co26, eo26, _⟩ := Kd.Q_slice HO_9.out; subst eo26) | ((with_reducible refine gate_builtin (b := .append) (xs := #[.tmp 26, .tmp 27]) rfl ?_); at_builtin; refine Kd.R_append_rows k23 (w0 := w) w.heap.size rfl (.tmp 26) (.tmp 27) 25 23 (.agg #[(.string ⟨#[]⟩), (.int .i64 0), (.int .i64 0), (.int .i64 0), (.string ⟨#[]⟩)]) 56 rfl Try.underlying25 info23 rfl (by decide) (by omega) v197 y196 x9_6 _ _ _ (fun k_ => some k_ ≠ (.slice Ao26 x9_6.length co26 : Value).ownBlock ∧ some k_ ≠ (v191 : Value).ownBlock) (fun _ => False) rfl rfl ?aO ?aR (fun _ _ h => h) (fun _ h => h.elim) ?aF ?aB ?aS ?aL ?_; (case aR => repeat (first | exact (Kd.Q_reads' HO_9.out).2.2 | (with_reducible refine Kd.C_alloc ?_ _) | (with_reducible refine Kd.C_drewN ?_ _) | (with_reducible refine Kd.C_drew ?_))); (case aB => exact (by repeat (first | (with_reducible first | exact HB.out | apply below_alloc | apply pw_below_drewN | apply below_drew1 | refine below_set ?_ GE184.out | refine below_set ?_ GE185.out | refine below_set ?_ GE186.out) | exact HB.out))); (case aF => exact (fun k_ hk => ⟨Kd.fresh' (Kd.Q_lt (by (with_reducible repeat (first | apply Kd.Q_alloc | apply Kd.Q_drewN | apply Kd.Q_drew)); exact HO_9.out)) k_ hk, Kd.fresh' (Kd.R_lt (by (with_reducible repeat (first | apply Kd.R_alloc | apply Kd.R_drewN | apply Kd.R_drew)); exact HO_10.out)) k_ hk⟩)); (case aO => exact (by (with_reducible repeat (first | apply Kd.R_alloc | apply Kd.R_drewN | apply Kd.R_drew)); exact Kd.R_mono HO198.out (fun _ hk => ⟨hk.1.2, hk.2⟩))); (case aS => exact (below_size (by repeat (first | (with_reducible first | exact HB.out | apply below_alloc | apply pw_below_drewN | apply below_drew1 | refine below_set ?_ GE184.out | refine below_set ?_ GE185.out | refine below_set ?_ GE186.out) | exact HB.out)))); (case aL => have := LMc18.out; omega); intro v200 w25 ho hb hg hat; rw [← Ny199.out] at ho; have n0_ := Aside0.mk (Kd.Q_after (ok := (fun k_ => some k_ ≠ (v191 : Value).ownBlock)) (by (with_reducible repeat (first | apply Kd.Q_alloc | apply Kd.Q_drewN | apply Kd.Q_drew)); exact HO_9.out) hg hat); have n1_ := Aside0.mk (Kd.R_after (ok := (fun k_ => some k_ ≠ (.slice Ao26 x9_6.length co26 : Value).ownBlock)) (by (with_reducible repeat (first | apply Kd.R_alloc | apply Kd.R_drewN | apply Kd.R_drew)); exact HO_10.out) hg hat); have n2_ := Aside0.mk (blk_grown (g := gb184) (o := .cells #[.slice A0_0 l0_0.length c0_0, .slice A0_1 l0_1.length c0_1] 29 (0, 0)) (by (with_reducible repeat (first | refine blk_drewN ?_ _ | refine blk_drew ?_ | refine blk_alloc ?_ _)); exact BK184.out) hg (Kd.R_ne HO198.out BK184.out (by decide))); have n3_ := Aside0.mk (blk_grown (g := gb185) (o := .cells #[.slice A2_0 l2_0.length c2_0, .slice A2_1 l2_1.length c2_1] 30 (0, 0)) (by (with_reducible repeat (first | refine blk_drewN ?_ _ | refine blk_drew ?_ | refine blk_alloc ?_ _)); exact BK185.out) hg (Kd.R_ne HO198.out BK185.out (by decide))); have n4_ := Aside0.mk (blk_grown (g := gb186) (o := .cells #[.slice A3_0 l3_0.length c3_0, .slice A3_1 l3_1.length c3_1] 29 (0, 0)) (by (with_reducible repeat (first | refine blk_drewN ?_ _ | refine blk_drew ?_ | refine blk_alloc ?_ _)); exact BK186.out) hg (Kd.R_ne HO198.out BK186.out (by decide))); have n5_ := Aside0.mk (hb); have n6_ := Aside0.mk (ho); clear HO_9; clear HO_10; clear BK184; clear BK185; clear BK186; clear HB; clear HO198; have HO_9 := n0_; have HO_10 := n1_; have BK184 := n2_; have BK185 := n3_; have BK186 := n4_; have HB := n5_; have HO201 := n6_; clear n0_ n1_ n2_ n3_ n4_ n5_ n6_; clear ho hb hg hat) | ((with_reducible refine gate_callee (f := 20) rfl ?_); refine goesL_ (some 30) rfl rfl Try.func20 (by kernel_rfl) rfl #[.string (⟨#[122]⟩ : ByteArray), .int .i64 a1] rfl (by (try simp only [List.map_toArray, List.map_cons, List.map_nil]); first | done | rfl | (simp only [List.length_drop, List.length_take]; rfl)) ?_; (with_reducible refine (broadsidekeep_Constraint.calls (⟨#[122]⟩ : ByteArray) a1 t202 t203 t204 t205 t206 _ A19.out).mono ?_); rintro e w27 ⟨rfl, hb⟩; refine ⟨_, rfl, ?_⟩; have n0_ := Aside0.mk (Kd.Q_below (by (with_reducible repeat (first | apply Kd.Q_alloc | apply Kd.Q_drewN | apply Kd.Q_drew)); exact HO_9.out) hb); have n1_ := Aside0.mk (Kd.R_below (by (with_reducible repeat (first | apply Kd.R_alloc | apply Kd.R_drewN | apply Kd.R_drew)); exact HO_10.out) hb); have n2_ := Aside0.mk (Kd.R_below (by (with_reducible repeat (first | apply Kd.R_alloc | apply Kd.R_drewN | apply Kd.R_drew)); exact HO201.out) hb); have n3_ := Aside0.mk (blk_below (g := gb184) (o := .cells #[.slice A0_0 l0_0.length c0_0, .slice A0_1 l0_1.length c0_1] 29 (0, 0)) (by (with_reducible repeat (first | refine blk_drewN ?_ _ | refine blk_drew ?_ | refine blk_alloc ?_ _)); exact BK184.out) hb); have n4_ := Aside0.mk (blk_below (g := gb185) (o := .cells #[.slice A2_0 l2_0.length c2_0, .slice A2_1 l2_1.length c2_1] 30 (0, 0)) (by (with_reducible repeat (first | refine blk_drewN ?_ _ | refine blk_drew ?_ | refine blk_alloc ?_ _)); exact BK185.out) hb); have n5_ := Aside0.mk (blk_below (g := gb186) (o := .cells #[.slice A3_0 l3_0.length c3_0, .slice A3_1 l3_1.length c3_1] 29 (0, 0)) (by (with_reducible repeat (first | refine blk_drewN ?_ _ | refine blk_drew ?_ | refine blk_alloc ?_ _)); exact BK186.out) hb); have n6_ := Aside0.mk (below_step (by repeat (first | (with_reducible first | exact HB.out | apply below_alloc | apply pw_below_drewN | apply below_drew1 | refine below_set ?_ GE184.out | refine below_set ?_ GE185.out | refine below_set ?_ GE186.out) | exact HB.out)) hb); clear HO_9; clear HO_10; clear HO201; clear BK184; clear BK185; clear BK186; clear HB; have HO_9 := n0_; have HO_10 := n1_; have HO201 := n2_; have BK184 := n3_; have BK185 := n4_; have BK186 := n5_; have HB := n6_; clear n0_ n1_ n2_ n3_ n4_ n5_ n6_; (try clear hb); (try clear hb2); (try clear hk); (try clear hi)) | ((with_reducible refine gate_builtin (b := .append) (xs := #[.tmp 28, .tmp 31]) rfl ?_); at_builtin; refine Kd.R_append k23 (w0 := w) w.heap.size rfl (.tmp 28) (.tmp 31) 25 23 (.agg #[(.string ⟨#[]⟩), (.int .i64 0), (.int .i64 0), (.int .i64 0), (.string ⟨#[]⟩)]) 56 rfl Try.underlying25 info23 rfl (by decide) (by omega) v200 y199 (⟨t202, t203, t204, t205, t206⟩ : S23) [.string t202, .int .i64 t203, .int .i64 t204, .int .i64 t205, .string t206] (fun k_ => some k_ ≠ (.slice Ao26 x9_6.length co26 : Value).ownBlock ∧ some k_ ≠ (v191 : Value).ownBlock) (fun _ => False) rfl rfl ?aP (fun _ hk => hk.elim) ?aF ?aO ?aB ?aS ?aL ?_; (case aP => exact k23_mkM _ _ _ (⟨t202, t203, t204, t205, t206⟩ : S23)); (case aB => exact (by repeat (first | (with_reducible first | exact HB.out | apply below_alloc | apply pw_below_drewN | apply below_drew1 | refine below_set ?_ GE184.out | refine below_set ?_ GE185.out | refine below_set ?_ GE186.out) | exact HB.out))); (case aF => exact (fun k_ hk => ⟨Kd.fresh' (Kd.Q_lt (by (with_reducible repeat (first | apply Kd.Q_alloc | apply Kd.Q_drewN | apply Kd.Q_drew)); exact HO_9.out)) k_ hk, Kd.fresh' (Kd.R_lt (by (with_reducible repeat (first | apply Kd.R_alloc | apply Kd.R_drewN | apply Kd.R_drew)); exact HO_10.out)) k_ hk⟩)); (case aO => exact (by (with_reducible repeat (first | apply Kd.R_alloc | apply Kd.R_drewN | apply Kd.R_drew)); exact HO201.out)); (case aS => exact (below_size (by repeat (first | (with_reducible first | exact HB.out | apply below_alloc | apply pw_below_drewN | apply below_drew1 | refine below_set ?_ GE184.out | refine below_set ?_ GE185.out | refine below_set ?_ GE186.out) | exact HB.out)))); (case aL => have := LMc20.out; omega); intro v208 w28 ho hb hg hat; rw [← Ny207.out] at ho; have n0_ := Aside0.mk (Kd.Q_after (ok := (fun k_ => some k_ ≠ (v191 : Value).ownBlock)) (by (with_reducible repeat (first | apply Kd.Q_alloc | apply Kd.Q_drewN | apply Kd.Q_drew)); exact HO_9.out) hg hat); have n1_ := Aside0.mk (Kd.R_after (ok := (fun k_ => some k_ ≠ (.slice Ao26 x9_6.length co26 : Value).ownBlock)) (by (with_reducible repeat (first | apply Kd.R_alloc | apply Kd.R_drewN | apply Kd.R_drew)); exact HO_10.out) hg hat); have n2_ := Aside0.mk (blk_grown (g := gb184) (o := .cells #[.slice A0_0 l0_0.length c0_0, .slice A0_1 l0_1.length c0_1] 29 (0, 0)) (by (with_reducible repeat (first | refine blk_drewN ?_ _ | refine blk_drew ?_ | refine blk_alloc ?_ _)); exact BK184.out) hg (Kd.R_ne HO201.out BK184.out (by decide))); have n3_ := Aside0.mk (blk_grown (g := gb185) (o := .cells #[.slice A2_0 l2_0.length c2_0, .slice A2_1 l2_1.length c2_1] 30 (0, 0)) (by (with_reducible repeat (first | refine blk_drewN ?_ _ | refine blk_drew ?_ | refine blk_alloc ?_ _)); exact BK185.out) hg (Kd.R_ne HO201.out BK185.out (by decide))); have n4_ := Aside0.mk (blk_grown (g := gb186) (o := .cells #[.slice A3_0 l3_0.length c3_0, .slice A3_1 l3_1.length c3_1] 29 (0, 0)) (by (with_reducible repeat (first | refine blk_drewN ?_ _ | refine blk_drew ?_ | refine blk_alloc ?_ _)); exact BK186.out) hg (Kd.R_ne HO201.out BK186.out (by decide))); have n5_ := Aside0.mk (hb); have n6_ := Aside0.mk (ho); clear HO_9; clear HO_10; clear BK184; clear BK185; clear BK186; clear HB; clear HO201; have HO_9 := n0_; have HO_10 := n1_; have BK184 := n2_; have BK185 := n3_; have BK186 := n4_; have HB := n5_; have HO209 := n6_; clear n0_ n1_ n2_ n3_ n4_ n5_ n6_; clear ho hb hg hat; have hnb29 := NB185_184.out; have hnc29 := NB184_185.out; have hnb30 := NB185_186.out; have hnc30 := NB186_185.out; have hcz31_0 : w28.cell? ⟨gb185, 0, none⟩ = some (.slice A2_0 l2_0.length c2_0) := (blk_cell BK185.out 0).trans rfl; have hcz31_1 : w28.cell? ⟨gb185, 1, none⟩ = some (.slice A2_1 l2_1.length c2_1) := (blk_cell BK185.out 1).trans rfl; have hfz31_0 := blk_frozen BK185.out 0; have hfz31_1 := blk_frozen BK185.out 1) | ((with_reducible refine gate_callee (f := 13) rfl ?_); refine goesL_ (some 34) rfl rfl Try.func13 (by kernel_rfl) rfl #[.agg #[.slice A2_0 l2_0.length c2_0, .slice A2_1 l2_1.length c2_1]] rfl (by (try simp only [List.map_toArray, List.map_cons, List.map_nil]); first | done | rfl | (simp only [List.length_drop, List.length_take]; rfl)) ?_; (with_reducible refine (broadsidekeep_Tuple_Tuple.calls kj6 _ _ l2_0 _ _ l2_1 t210 _ ?side1 ?side2 ?side3 ?side4 A21.out).mono ?_); (case side1 => repeat (first | exact (Kd.C_below HR2_0.out HB.out) | (with_reducible refine Kd.C_alloc ?_ _) | (with_reducible refine Kd.C_drewN ?_ _) | (with_reducible refine Kd.C_drew ?_))); (case side2 => exact HC2_0.out); (case side3 => repeat (first | exact (Kd.C_below HR2_1.out HB.out) | (with_reducible refine Kd.C_alloc ?_ _) | (with_reducible refine Kd.C_drewN ?_ _) | (with_reducible refine Kd.C_drew ?_))); (case side4 => exact HC2_1.out); rintro e w32 ⟨v211, rfl, ho0, hb⟩; refine ⟨_, rfl, ?_⟩; have n0_ := Aside0.mk (Kd.Q_below (by (with_reducible repeat (first | apply Kd.Q_alloc | apply Kd.Q_drewN | apply Kd.Q_drew)); exact HO_9.out) hb); have n1_ := Aside0.mk (Kd.R_below (by (with_reducible repeat (first | apply Kd.R_alloc | apply Kd.R_drewN | apply Kd.R_drew)); exact HO_10.out) hb); have n2_ := Aside0.mk (Kd.R_below (by (with_reducible repeat (first | apply Kd.R_alloc | apply Kd.R_drewN | apply Kd.R_drew)); exact HO209.out) hb); have n3_ := Aside0.mk (Kd.R_lower ho0 (below_size (by repeat (first | (with_reducible first | exact HB.out | apply below_alloc | apply pw_below_drewN | apply below_drew1 | refine below_set ?_ GE184.out | refine below_set ?_ GE185.out | refine below_set ?_ GE186.out) | exact HB.out)))); have n4_ := Aside0.mk (blk_below (g := gb184) (o := .cells #[.slice A0_0 l0_0.length c0_0, .slice A0_1 l0_1.length c0_1] 29 (0, 0)) (by (with_reducible repeat (first | refine blk_drewN ?_ _ | refine blk_drew ?_ | refine blk_alloc ?_ _)); exact BK184.out) hb); have n5_ := Aside0.mk (blk_below (g := gb185) (o := .cells #[.slice A2_0 l2_0.length c2_0, .slice A2_1 l2_1.length c2_1] 30 (0, 0)) (by (with_reducible repeat (first | refine blk_drewN ?_ _ | refine blk_drew ?_ | refine blk_alloc ?_ _)); exact BK185.out) hb); have n6_ := Aside0.mk (blk_below (g := gb186) (o := .cells #[.slice A3_0 l3_0.length c3_0, .slice A3_1 l3_1.length c3_1] 29 (0, 0)) (by (with_reducible repeat (first | refine blk_drewN ?_ _ | refine blk_drew ?_ | refine blk_alloc ?_ _)); exact BK186.out) hb); have n7_ := Aside0.mk (below_step (by repeat (first | (with_reducible first | exact HB.out | apply below_alloc | apply pw_below_drewN | apply below_drew1 | refine below_set ?_ GE184.out | refine below_set ?_ GE185.out | refine below_set ?_ GE186.out) | exact HB.out)) hb); clear HO_9; clear HO_10; clear HO209; clear BK184; clear BK185; clear BK186; clear HB; have HO_9 := n0_; have HO_10 := n1_; have HO209 := n2_; have HO212 := n3_; have BK184 := n4_; have BK185 := n5_; have BK186 := n6_; have HB := n7_; clear n0_ n1_ n2_ n3_ n4_ n5_ n6_ n7_; (try clear hb); (try clear hb2); (try clear hk); (try clear hi); (try clear ho0); obtain ⟨Ao33, co33, eo33⟩ := Kd.R_slice HO212.out; subst eo33))
          (try simp only [Act.put, List.setIfInBounds_toArray, List.set_cons_zero, List.set_cons_succ])
          go_cut [12] (fun v12 wc => ∃ (kq : Nat) (x12_21 : List (S42)), Aside0 (broadsidelaw5_RelMore.j1 kq x9_6 t190 y207 x12_21 = some r) ∧ Aside0 (kq ≤ kj6) ∧ Aside0 (Kd.Q k23 23 wc w.heap.size (fun k_ => some k_ ≠ (v191 : Value).ownBlock ∧ some k_ ≠ (v208 : Value).ownBlock) (.slice Ao26 x9_6.length co26) x9_6) ∧ Aside0 (Kd.R k23 23 wc w.heap.size (fun k_ => some k_ ≠ ((.slice Ao26 x9_6.length co26) : Value).ownBlock ∧ some k_ ≠ (v208 : Value).ownBlock) v191 t190) ∧ Aside0 (Kd.R k23 23 wc w.heap.size (fun k_ => some k_ ≠ ((.slice Ao26 x9_6.length co26) : Value).ownBlock ∧ some k_ ≠ (v191 : Value).ownBlock) v208 y207) ∧ Aside0 (Kd.Q k42 42 wc w.heap.size (fun _ => True) v12 x12_21) ∧ Aside0 (wc.heap[gb184]? = some (.cells #[(.slice A0_0 l0_0.length c0_0), (.slice A0_1 l0_1.length c0_1)] 29 (0, 0))) ∧ Aside0 (wc.heap[gb185]? = some (.cells #[(.slice A2_0 l2_0.length c2_0), (.slice A2_1 l2_1.length c2_1)] 30 (0, 0))) ∧ Aside0 (wc.heap[gb186]? = some (.cells #[(.slice A3_0 l3_0.length c3_0), (.slice A3_1 l3_1.length c3_1)] 29 (0, 0))) ∧ Aside0 (Below w.heap.size w wc))
          case first =>
            have H := HC22.out
            clear HC22
            by_cases c34 : (t210.length : Int) = 5
            · rw [if_pos c34] at H
              have c34b0 : ((t210.length : Int) == 5) = true := beq_iff_eq.mpr c34
              have c34b1 : ((t210.length : Int) != 5) = false := bne_eq_false_iff_eq.mpr c34
              clear c34
              (first | rw [c34b0] | (simp only [i64_w, i32_w]; rw [c34b0]) | skip)
              by_cases c35 : 1 ≤ (t210.length : Int)
              · rw [if_pos c35] at H
                have c35b0 := eq_true c35
                have c35b1 : decide (1 ≤ (t210.length : Int)) = true := decide_eq_true c35
                clear c35
                obtain ⟨y213, hy213⟩ : ∃ y_ : List (S42), y_ = (t210.drop (1 : Int).toNat) := ⟨_, rfl⟩
                replace H : (broadsidelaw5_RelMore.j1 kj6 x9_6 t190 y207 y213) = some r := by first | (rw [hy213]; with_reducible exact H) | (have H2_ := (Option.bind_some _ _).symm.trans H; rw [hy213]; with_reducible exact H2_) | (have H2_ := (Option.bind_some _ _).symm.trans H; with_reducible exact H2_) | with_reducible exact H | (rw [hy213]; exact H) | exact H
                have Ny213 := Aside0.mk hy213
                clear hy213
                have H' := Aside0.mk H
                clear H
                have q36 : (1 : Int) ≤ ((t210.length : Int) : Int) := of_decide_eq_true (by first | (with_reducible assumption) | assumption)
                obtain ⟨i036, hi036, _, hsz36, _⟩ := info_parts info42
                have hcut36 := cut_from (P := Try.prog) 32 42 .i64 Try.underlying32 hi036 4 hsz36 Ao33 t210.length co33 1 (by omega) q36
                have hr36 := Kd.Q_drop (k := (1 : Int).toNat) (Kd.Q_of_R HO212.out) (by omega)
                obtain ⟨A36, hA36⟩ : ∃ A1, A1 = (if co33 = (1 : Int).toNat then Ao33 else (Ao33 : Option Addr).map (·.add ((1 : Int).toNat * 4))) := ⟨_, rfl⟩
                obtain ⟨c36, hc36⟩ : ∃ c1, c1 = co33 - (1 : Int).toNat := ⟨_, rfl⟩
                have hy36 : y213.length = t210.length - (1 : Int).toNat := (by rw [Ny213.out, List.length_drop])
                rw [← Ny213.out] at hr36
                rw [← hy36, ← hA36, ← hc36] at hcut36
                replace hr36 : Kd.Q k42 42 w32 w.heap.size (fun _ => True) (.slice A36 y213.length c36) y213 := (by rw [hA36, hc36, hy36]; exact hr36)
                have HE36 : Aside0 ((Value.slice A36 y213.length c36).ownBlock = (.slice Ao33 t210.length co33 : Value).ownBlock) := ⟨by rw [hA36]; split <;> (cases (Ao33 : Option Addr) <;> rfl)⟩
                clear hy36 hi036 hsz36 HO212 hA36 hc36
                have HO215 := Aside0.mk hr36
                clear hr36
                replace q36 := eq_true q36
                go_wp2
                go_meet
                case rel => exact ⟨_, (y213), H', ⟨by have := HJ6.out; first | omega | exact Nat.le_refl _⟩, ⟨by (with_reducible repeat (first | apply Kd.Q_alloc | apply Kd.Q_drewN | apply Kd.Q_drew)); exact HO_9.out⟩, ⟨by (with_reducible repeat (first | apply Kd.R_alloc | apply Kd.R_drewN | apply Kd.R_drew)); exact HO_10.out⟩, ⟨by (with_reducible repeat (first | apply Kd.R_alloc | apply Kd.R_drewN | apply Kd.R_drew)); exact HO209.out⟩, ⟨by (with_reducible repeat (first | apply Kd.Q_alloc | apply Kd.Q_drewN | apply Kd.Q_drew)); exact HO215.out⟩, ⟨by (with_reducible repeat (first | refine blk_drewN ?_ _ | refine blk_drew ?_ | refine blk_alloc ?_ _)); exact BK184.out⟩, ⟨by (with_reducible repeat (first | refine blk_drewN ?_ _ | refine blk_drew ?_ | refine blk_alloc ?_ _)); exact BK185.out⟩, ⟨by (with_reducible repeat (first | refine blk_drewN ?_ _ | refine blk_drew ?_ | refine blk_alloc ?_ _)); exact BK186.out⟩, ⟨by repeat (first | (with_reducible first | exact HB.out | apply below_alloc | apply pw_below_drewN | apply below_drew1 | refine below_set ?_ GE184.out | refine below_set ?_ GE185.out | refine below_set ?_ GE186.out) | exact HB.out)⟩⟩
              · rw [if_neg c35] at H
                exact absurd H (by simp)
            · rw [if_neg c34] at H
              have c34b0 : ((t210.length : Int) == 5) = false := beq_eq_false_iff_ne.mpr c34
              have c34b1 : ((t210.length : Int) != 5) = true := bne_iff_ne.mpr c34
              (first | rw [c34b0] | (simp only [i64_w, i32_w]; rw [c34b0]) | skip)
              have H' := Aside0.mk H
              clear H
              go_wp2
              go_meet
              case rel => exact ⟨_, (t210), H', ⟨by have := HJ6.out; first | omega | exact Nat.le_refl _⟩, ⟨by (with_reducible repeat (first | apply Kd.Q_alloc | apply Kd.Q_drewN | apply Kd.Q_drew)); exact HO_9.out⟩, ⟨by (with_reducible repeat (first | apply Kd.R_alloc | apply Kd.R_drewN | apply Kd.R_drew)); exact HO_10.out⟩, ⟨by (with_reducible repeat (first | apply Kd.R_alloc | apply Kd.R_drewN | apply Kd.R_drew)); exact HO209.out⟩, ⟨Kd.Q_of_R (by (with_reducible repeat (first | apply Kd.R_alloc | apply Kd.R_drewN | apply Kd.R_drew)); exact HO212.out)⟩, ⟨by (with_reducible repeat (first | refine blk_drewN ?_ _ | refine blk_drew ?_ | refine blk_alloc ?_ _)); exact BK184.out⟩, ⟨by (with_reducible repeat (first | refine blk_drewN ?_ _ | refine blk_drew ?_ | refine blk_alloc ?_ _)); exact BK185.out⟩, ⟨by (with_reducible repeat (first | refine blk_drewN ?_ _ | refine blk_drew ?_ | refine blk_alloc ?_ _)); exact BK186.out⟩, ⟨by repeat (first | (with_reducible first | exact HB.out | apply below_alloc | apply pw_below_drewN | apply below_drew1 | refine below_set ?_ GE184.out | refine below_set ?_ GE185.out | refine below_set ?_ GE186.out) | exact HB.out)⟩⟩
          case rest =>
            clear HC22
            try clear c1
            try clear q1
            try clear c2
            try clear p2
            try clear c3
            try clear q3
            try clear c7
            try clear c12
            try clear c13
            try clear c15
            try clear c15b0
            try clear c15b1
            try clear c16
            try clear c16b0
            try clear c16b1
            try clear c17
            try clear q17
            try clear c18
            try clear c20
            try clear c29
            try clear c30
            try clear c34
            try clear c34b0
            try clear c34b1
            try clear c35
            try clear c35b0
            try clear c35b1
            try clear c36
            try clear q36
            try clear hcz31_0
            try clear hcz31_1
            try clear hfz31_0
            try clear hfz31_1
            try clear p2
            try clear q1
            try clear q17
            try clear q36
            obtain ⟨kq, x12_21, HA, HJ21, HO_9, HO_10, HO_11, HO_12, BK184, BK185, BK186, HB⟩ := hcut
            cases kq with
            | zero => exact absurd HA.out (by simp [broadsidelaw5_RelMore.j1])
            | succ kj21 =>
              have H := HA.out
              clear HA
              simp only [broadsidelaw5_RelMore.j1] at H
              obtain ⟨y216, hy216⟩ : ∃ y_ : List (S42), y_ = (([] : List (S42))) := ⟨_, rfl⟩
              replace H : (if y216.length + x12_21.length < 2932031007402 then ((some (y216 ++ x12_21 : List (S42))).bind fun y219 => (if y219.length < 2932031007402 then ((rel_Covers.f x9_6 y207).bind fun t225 => (if t225 = true then ((rel_Covers.f y207 x9_6).bind fun t226 => (if t226 = true then (broadsidelaw5_RelMore.j2 kj21 x9_6 t190 y207 true) else ((rel_Match.f kj21 y207 x12_21).bind fun t227 => (if t227 = true then (broadsidelaw5_RelMore.j2 kj21 x9_6 t190 y207 true) else ((rel_Match.f kj21 x9_6 x12_21).bind fun t228 => ((rel_Match.f kj21 x9_6 (y219 ++ [(⟨(⟨#[122, 122]⟩ : ByteArray), (⟨false, 1, (⟨#[]⟩ : ByteArray)⟩ : S40)⟩ : S42)])).bind fun t229 => (broadsidelaw5_RelMore.j2 kj21 x9_6 t190 y207 (t228 != t229)))))))) else (broadsidelaw5_RelMore.j2 kj21 x9_6 t190 y207 true))) else (none))) else (none)) = some r := by first | (rw [hy216]; with_reducible exact H) | (have H2_ := (Option.bind_some _ _).symm.trans H; rw [hy216]; with_reducible exact H2_) | (have H2_ := (Option.bind_some _ _).symm.trans H; with_reducible exact H2_) | with_reducible exact H | (rw [hy216]; exact H) | exact H
              have Ny216 := Aside0.mk hy216
              clear hy216
              by_cases c37 : y216.length + x12_21.length < 2932031007402
              · rw [if_pos c37] at H
                have LMc37 := Aside0.mk c37
                clear c37
                obtain ⟨y219, hy219⟩ : ∃ y_ : List (S42), y_ = (y216 ++ x12_21) := ⟨_, rfl⟩
                replace H : (if y219.length < 2932031007402 then ((rel_Covers.f x9_6 y207).bind fun t225 => (if t225 = true then ((rel_Covers.f y207 x9_6).bind fun t226 => (if t226 = true then (broadsidelaw5_RelMore.j2 kj21 x9_6 t190 y207 true) else ((rel_Match.f kj21 y207 x12_21).bind fun t227 => (if t227 = true then (broadsidelaw5_RelMore.j2 kj21 x9_6 t190 y207 true) else ((rel_Match.f kj21 x9_6 x12_21).bind fun t228 => ((rel_Match.f kj21 x9_6 (y219 ++ [(⟨(⟨#[122, 122]⟩ : ByteArray), (⟨false, 1, (⟨#[]⟩ : ByteArray)⟩ : S40)⟩ : S42)])).bind fun t229 => (broadsidelaw5_RelMore.j2 kj21 x9_6 t190 y207 (t228 != t229)))))))) else (broadsidelaw5_RelMore.j2 kj21 x9_6 t190 y207 true))) else (none)) = some r := by first | (rw [hy219]; with_reducible exact H) | (have H2_ := (Option.bind_some _ _).symm.trans H; rw [hy219]; with_reducible exact H2_) | (have H2_ := (Option.bind_some _ _).symm.trans H; with_reducible exact H2_) | with_reducible exact H | (rw [hy219]; exact H) | exact H
                have Ny219 := Aside0.mk hy219
                clear hy219
                by_cases c38 : y219.length < 2932031007402
                · rw [if_pos c38] at H
                  have LMc38 := Aside0.mk c38
                  clear c38
                  obtain ⟨y222, hy222⟩ : ∃ y_ : List (S42), y_ = (y219 ++ [(⟨(⟨#[122, 122]⟩ : ByteArray), (⟨false, 1, (⟨#[]⟩ : ByteArray)⟩ : S40)⟩ : S42)]) := ⟨_, rfl⟩
                  replace H : ((rel_Covers.f x9_6 y207).bind fun t225 => (if t225 = true then ((rel_Covers.f y207 x9_6).bind fun t226 => (if t226 = true then (broadsidelaw5_RelMore.j2 kj21 x9_6 t190 y207 true) else ((rel_Match.f kj21 y207 x12_21).bind fun t227 => (if t227 = true then (broadsidelaw5_RelMore.j2 kj21 x9_6 t190 y207 true) else ((rel_Match.f kj21 x9_6 x12_21).bind fun t228 => ((rel_Match.f kj21 x9_6 y222).bind fun t229 => (broadsidelaw5_RelMore.j2 kj21 x9_6 t190 y207 (t228 != t229)))))))) else (broadsidelaw5_RelMore.j2 kj21 x9_6 t190 y207 true))) = some r := by first | (rw [hy222]; with_reducible exact H) | (have H2_ := (Option.bind_some _ _).symm.trans H; rw [hy222]; with_reducible exact H2_) | (have H2_ := (Option.bind_some _ _).symm.trans H; with_reducible exact H2_) | with_reducible exact H | (rw [hy222]; exact H) | exact H
                  have Ny222 := Aside0.mk hy222
                  clear hy222
                  have HC39 := Aside0.mk H
                  clear H
                  go_upto_region 9 with (first | ((with_reducible refine gate_dst (N := 40) rfl ?_); refine Kd.R_lit k42 _ 42 ?hg (N := 40) ?hd (xs := ([] : List (S42))) (inner := []) (ok := fun _ => True) (okp := fun _ => True) ?hr ?hp (fun _ hk => hk) trivial (Below.refl _ _) (Nat.le_refl _) (by simp) ?_; (case hd => rfl); (case hg => rfl); (case hr => first | (go_simp; done) | (go_simp; rfl)); (case hp => exact (Reps.none _ _)); intro v217 w40 ho41 hb hg_ hnew_; clear hg_ hnew_; (first | rw [← Ny216.out] at ho41 | (simp only [Int.reduceToNat] at ho41; rw [← Ny216.out] at ho41)); have n0_ := Aside0.mk (Kd.Q_below (by (with_reducible repeat (first | apply Kd.Q_alloc | apply Kd.Q_drewN | apply Kd.Q_drew)); exact HO_9.out) hb); have n1_ := Aside0.mk (Kd.R_below (by (with_reducible repeat (first | apply Kd.R_alloc | apply Kd.R_drewN | apply Kd.R_drew)); exact HO_10.out) hb); have n2_ := Aside0.mk (Kd.R_below (by (with_reducible repeat (first | apply Kd.R_alloc | apply Kd.R_drewN | apply Kd.R_drew)); exact HO_11.out) hb); have n3_ := Aside0.mk (Kd.Q_elder' (by (with_reducible repeat (first | apply Kd.Q_alloc | apply Kd.Q_drewN | apply Kd.Q_drew)); exact HO_12.out) (Kd.R_base ho41) hb); have n4_ := Aside0.mk (Kd.R_lower (Kd.R_new' ho41 (Kd.Q_lt (by (with_reducible repeat (first | apply Kd.Q_alloc | apply Kd.Q_drewN | apply Kd.Q_drew)); exact HO_12.out))) (below_size (by repeat (first | (with_reducible first | exact HB.out | apply below_alloc | apply pw_below_drewN | apply below_drew1 | refine below_set ?_ GE184.out | refine below_set ?_ GE185.out | refine below_set ?_ GE186.out) | exact HB.out)))); have n5_ := Aside0.mk (blk_below (g := gb184) (o := .cells #[.slice A0_0 l0_0.length c0_0, .slice A0_1 l0_1.length c0_1] 29 (0, 0)) (by (with_reducible repeat (first | refine blk_drewN ?_ _ | refine blk_drew ?_ | refine blk_alloc ?_ _)); exact BK184.out) hb); have n6_ := Aside0.mk (blk_below (g := gb185) (o := .cells #[.slice A2_0 l2_0.length c2_0, .slice A2_1 l2_1.length c2_1] 30 (0, 0)) (by (with_reducible repeat (first | refine blk_drewN ?_ _ | refine blk_drew ?_ | refine blk_alloc ?_ _)); exact BK185.out) hb); have n7_ := Aside0.mk (blk_below (g := gb186) (o := .cells #[.slice A3_0 l3_0.length c3_0, .slice A3_1 l3_1.length c3_1] 29 (0, 0)) (by (with_reducible repeat (first | refine blk_drewN ?_ _ | refine blk_drew ?_ | refine blk_alloc ?_ _)); exact BK186.out) hb); have n8_ := Aside0.mk (below_step (by repeat (first | (with_reducible first | exact HB.out | apply below_alloc | apply pw_below_drewN | apply below_drew1 | refine below_set ?_ GE184.out | refine below_set ?_ GE185.out | refine below_set ?_ GE186.out) | exact HB.out)) hb); clear HO_9; clear HO_10; clear HO_11; clear HO_12; clear BK184; clear BK185; clear BK186; clear HB; have HO_9 := n0_; have HO_10 := n1_; have HO_11 := n2_; have HO_12 := n3_; have HO218 := n4_; have BK184 := n5_; have BK185 := n6_; have BK186 := n7_; have HB := n8_; clear n0_ n1_ n2_ n3_ n4_ n5_ n6_ n7_ n8_; clear hb ho41; obtain ⟨Ao43, co43, eo43, _⟩ := Kd.Q_slice HO_12.out; subst eo43) | ((with_reducible refine gate_builtin (b := .append) (xs := #[.tmp 40, .tmp 41]) rfl ?_); at_builtin; refine Kd.R_append_rows k42 (w0 := w) w.heap.size rfl (.tmp 40) (.tmp 41) 32 42 (.agg #[(.string ⟨#[]⟩), (.bool false), (.int .i64 0), (.string ⟨#[]⟩)]) 48 rfl Try.underlying32 info42 rfl (by decide) (by omega) v217 y216 x12_21 _ _ _ (fun k_ => some k_ ≠ (.slice Ao43 x12_21.length co43 : Value).ownBlock) (fun _ => False) rfl rfl ?aO ?aR (fun _ _ h => h) (fun _ h => h.elim) ?aF ?aB ?aS ?aL ?_; (case aR => repeat (first | exact (Kd.Q_reads' HO_12.out).2.2 | (with_reducible refine Kd.C_alloc ?_ _) | (with_reducible refine Kd.C_drewN ?_ _) | (with_reducible refine Kd.C_drew ?_))); (case aB => exact (by repeat (first | (with_reducible first | exact HB.out | apply below_alloc | apply pw_below_drewN | apply below_drew1 | refine below_set ?_ GE184.out | refine below_set ?_ GE185.out | refine below_set ?_ GE186.out) | exact HB.out))); (case aF => exact (fun k_ hk => Kd.fresh' (Kd.Q_lt (by (with_reducible repeat (first | apply Kd.Q_alloc | apply Kd.Q_drewN | apply Kd.Q_drew)); exact HO_12.out)) k_ hk)); (case aO => exact (by (with_reducible repeat (first | apply Kd.R_alloc | apply Kd.R_drewN | apply Kd.R_drew)); exact Kd.R_mono HO218.out (fun _ hk => hk.2))); (case aS => exact (below_size (by repeat (first | (with_reducible first | exact HB.out | apply below_alloc | apply pw_below_drewN | apply below_drew1 | refine below_set ?_ GE184.out | refine below_set ?_ GE185.out | refine below_set ?_ GE186.out) | exact HB.out)))); (case aL => have := LMc37.out; omega); intro v220 w42 ho hb hg hat; rw [← Ny219.out] at ho; have n0_ := Aside0.mk (Kd.Q_over' (by (with_reducible repeat (first | apply Kd.Q_alloc | apply Kd.Q_drewN | apply Kd.Q_drew)); exact HO_9.out) (Kd.R_typed (by (with_reducible repeat (first | apply Kd.R_alloc | apply Kd.R_drewN | apply Kd.R_drew)); exact HO218.out)) (by decide) hg); have n1_ := Aside0.mk (Kd.R_over' (by (with_reducible repeat (first | apply Kd.R_alloc | apply Kd.R_drewN | apply Kd.R_drew)); exact HO_10.out) (Kd.R_typed (by (with_reducible repeat (first | apply Kd.R_alloc | apply Kd.R_drewN | apply Kd.R_drew)); exact HO218.out)) (by decide) hg); have n2_ := Aside0.mk (Kd.R_over' (by (with_reducible repeat (first | apply Kd.R_alloc | apply Kd.R_drewN | apply Kd.R_drew)); exact HO_11.out) (Kd.R_typed (by (with_reducible repeat (first | apply Kd.R_alloc | apply Kd.R_drewN | apply Kd.R_drew)); exact HO218.out)) (by decide) hg); have n3_ := Aside0.mk (Kd.Q_after (ok := (fun _ => True)) (by (with_reducible repeat (first | apply Kd.Q_alloc | apply Kd.Q_drewN | apply Kd.Q_drew)); exact HO_12.out) hg hat); have n4_ := Aside0.mk (blk_grown (g := gb184) (o := .cells #[.slice A0_0 l0_0.length c0_0, .slice A0_1 l0_1.length c0_1] 29 (0, 0)) (by (with_reducible repeat (first | refine blk_drewN ?_ _ | refine blk_drew ?_ | refine blk_alloc ?_ _)); exact BK184.out) hg (Kd.R_ne HO218.out BK184.out (by decide))); have n5_ := Aside0.mk (blk_grown (g := gb185) (o := .cells #[.slice A2_0 l2_0.length c2_0, .slice A2_1 l2_1.length c2_1] 30 (0, 0)) (by (with_reducible repeat (first | refine blk_drewN ?_ _ | refine blk_drew ?_ | refine blk_alloc ?_ _)); exact BK185.out) hg (Kd.R_ne HO218.out BK185.out (by decide))); have n6_ := Aside0.mk (blk_grown (g := gb186) (o := .cells #[.slice A3_0 l3_0.length c3_0, .slice A3_1 l3_1.length c3_1] 29 (0, 0)) (by (with_reducible repeat (first | refine blk_drewN ?_ _ | refine blk_drew ?_ | refine blk_alloc ?_ _)); exact BK186.out) hg (Kd.R_ne HO218.out BK186.out (by decide))); have n7_ := Aside0.mk (hb); have n8_ := Aside0.mk (ho); clear HO_9; clear HO_10; clear HO_11; clear HO_12; clear BK184; clear BK185; clear BK186; clear HB; clear HO218; have HO_9 := n0_; have HO_10 := n1_; have HO_11 := n2_; have HO_12 := n3_; have BK184 := n4_; have BK185 := n5_; have BK186 := n6_; have HB := n7_; have HO221 := n8_; clear n0_ n1_ n2_ n3_ n4_ n5_ n6_ n7_ n8_; clear ho hb hg hat) | ((with_reducible refine gate_builtin (b := .append) (xs := #[.tmp 42, .tmp 45]) rfl ?_); at_builtin; refine Kd.R_append k42 (w0 := w) w.heap.size rfl (.tmp 42) (.tmp 45) 32 42 (.agg #[(.string ⟨#[]⟩), (.bool false), (.int .i64 0), (.string ⟨#[]⟩)]) 48 rfl Try.underlying32 info42 rfl (by decide) (by omega) v220 y219 (⟨(⟨#[122, 122]⟩ : ByteArray), (⟨false, 1, (⟨#[]⟩ : ByteArray)⟩ : S40)⟩ : S42) [.string (⟨#[122, 122]⟩ : ByteArray), .bool false, .int .i64 1, .string (⟨#[]⟩ : ByteArray)] (fun k_ => some k_ ≠ (.slice Ao43 x12_21.length co43 : Value).ownBlock) (fun _ => False) rfl rfl ?aP (fun _ hk => hk.elim) ?aF ?aO ?aB ?aS ?aL ?_; (case aP => exact k42_mkM _ _ _ (⟨(⟨#[122, 122]⟩ : ByteArray), (⟨false, 1, (⟨#[]⟩ : ByteArray)⟩ : S40)⟩ : S42)); (case aB => exact (by repeat (first | (with_reducible first | exact HB.out | apply below_alloc | apply pw_below_drewN | apply below_drew1 | refine below_set ?_ GE184.out | refine below_set ?_ GE185.out | refine below_set ?_ GE186.out) | exact HB.out))); (case aF => exact (fun k_ hk => Kd.fresh' (Kd.Q_lt (by (with_reducible repeat (first | apply Kd.Q_alloc | apply Kd.Q_drewN | apply Kd.Q_drew)); exact HO_12.out)) k_ hk)); (case aO => exact (by (with_reducible repeat (first | apply Kd.R_alloc | apply Kd.R_drewN | apply Kd.R_drew)); exact HO221.out)); (case aS => exact (below_size (by repeat (first | (with_reducible first | exact HB.out | apply below_alloc | apply pw_below_drewN | apply below_drew1 | refine below_set ?_ GE184.out | refine below_set ?_ GE185.out | refine below_set ?_ GE186.out) | exact HB.out)))); (case aL => have := LMc38.out; omega); intro v223 w44 ho hb hg hat; rw [← Ny222.out] at ho; have n0_ := Aside0.mk (Kd.Q_over' (by (with_reducible repeat (first | apply Kd.Q_alloc | apply Kd.Q_drewN | apply Kd.Q_drew)); exact HO_9.out) (Kd.R_typed (by (with_reducible repeat (first | apply Kd.R_alloc | apply Kd.R_drewN | apply Kd.R_drew)); exact HO221.out)) (by decide) hg); have n1_ := Aside0.mk (Kd.R_over' (by (with_reducible repeat (first | apply Kd.R_alloc | apply Kd.R_drewN | apply Kd.R_drew)); exact HO_10.out) (Kd.R_typed (by (with_reducible repeat (first | apply Kd.R_alloc | apply Kd.R_drewN | apply Kd.R_drew)); exact HO221.out)) (by decide) hg); have n2_ := Aside0.mk (Kd.R_over' (by (with_reducible repeat (first | apply Kd.R_alloc | apply Kd.R_drewN | apply Kd.R_drew)); exact HO_11.out) (Kd.R_typed (by (with_reducible repeat (first | apply Kd.R_alloc | apply Kd.R_drewN | apply Kd.R_drew)); exact HO221.out)) (by decide) hg); have n3_ := Aside0.mk (Kd.Q_after (ok := (fun _ => True)) (by (with_reducible repeat (first | apply Kd.Q_alloc | apply Kd.Q_drewN | apply Kd.Q_drew)); exact HO_12.out) hg hat); have n4_ := Aside0.mk (blk_grown (g := gb184) (o := .cells #[.slice A0_0 l0_0.length c0_0, .slice A0_1 l0_1.length c0_1] 29 (0, 0)) (by (with_reducible repeat (first | refine blk_drewN ?_ _ | refine blk_drew ?_ | refine blk_alloc ?_ _)); exact BK184.out) hg (Kd.R_ne HO221.out BK184.out (by decide))); have n5_ := Aside0.mk (blk_grown (g := gb185) (o := .cells #[.slice A2_0 l2_0.length c2_0, .slice A2_1 l2_1.length c2_1] 30 (0, 0)) (by (with_reducible repeat (first | refine blk_drewN ?_ _ | refine blk_drew ?_ | refine blk_alloc ?_ _)); exact BK185.out) hg (Kd.R_ne HO221.out BK185.out (by decide))); have n6_ := Aside0.mk (blk_grown (g := gb186) (o := .cells #[.slice A3_0 l3_0.length c3_0, .slice A3_1 l3_1.length c3_1] 29 (0, 0)) (by (with_reducible repeat (first | refine blk_drewN ?_ _ | refine blk_drew ?_ | refine blk_alloc ?_ _)); exact BK186.out) hg (Kd.R_ne HO221.out BK186.out (by decide))); have n7_ := Aside0.mk (hb); have n8_ := Aside0.mk (ho); clear HO_9; clear HO_10; clear HO_11; clear HO_12; clear BK184; clear BK185; clear BK186; clear HB; clear HO221; have HO_9 := n0_; have HO_10 := n1_; have HO_11 := n2_; have HO_12 := n3_; have BK184 := n4_; have BK185 := n5_; have BK186 := n6_; have HB := n7_; have HO224 := n8_; clear n0_ n1_ n2_ n3_ n4_ n5_ n6_ n7_ n8_; clear ho hb hg hat))
                  (try simp only [Act.put, List.setIfInBounds_toArray, List.set_cons_zero, List.set_cons_succ])
                  go_cut [69] (fun v69 wc => ∃ (kq : Nat) (x69_38 : Bool), v69 = .bool x69_38 ∧ Aside0 (broadsidelaw5_RelMore.j2 kq x9_6 t190 y207 x69_38 = some r) ∧ Aside0 (kq ≤ kj21) ∧ Aside0 (Kd.Q k23 23 wc w.heap.size (fun k_ => some k_ ≠ (v191 : Value).ownBlock ∧ some k_ ≠ (v208 : Value).ownBlock) (.slice Ao26 x9_6.length co26) x9_6) ∧ Aside0 (Kd.R k23 23 wc w.heap.size (fun k_ => some k_ ≠ ((.slice Ao26 x9_6.length co26) : Value).ownBlock ∧ some k_ ≠ (v208 : Value).ownBlock) v191 t190) ∧ Aside0 (Kd.R k23 23 wc w.heap.size (fun k_ => some k_ ≠ ((.slice Ao26 x9_6.length co26) : Value).ownBlock ∧ some k_ ≠ (v191 : Value).ownBlock) v208 y207) ∧ Aside0 (wc.heap[gb184]? = some (.cells #[(.slice A0_0 l0_0.length c0_0), (.slice A0_1 l0_1.length c0_1)] 29 (0, 0))) ∧ Aside0 (wc.heap[gb185]? = some (.cells #[(.slice A2_0 l2_0.length c2_0), (.slice A2_1 l2_1.length c2_1)] 30 (0, 0))) ∧ Aside0 (wc.heap[gb186]? = some (.cells #[(.slice A3_0 l3_0.length c3_0), (.slice A3_1 l3_1.length c3_1)] 29 (0, 0))) ∧ Aside0 (Below w.heap.size w wc))
                  case first =>
                    have H := HC39.out
                    clear HC39
                    replace H := Option.bind_eq_some_iff.mp H
                    obtain ⟨t225, A450, H⟩ := H
                    replace H : (if t225 = true then ((rel_Covers.f y207 x9_6).bind fun t226 => (if t226 = true then (broadsidelaw5_RelMore.j2 kj21 x9_6 t190 y207 true) else ((rel_Match.f kj21 y207 x12_21).bind fun t227 => (if t227 = true then (broadsidelaw5_RelMore.j2 kj21 x9_6 t190 y207 true) else ((rel_Match.f kj21 x9_6 x12_21).bind fun t228 => ((rel_Match.f kj21 x9_6 y222).bind fun t229 => (broadsidelaw5_RelMore.j2 kj21 x9_6 t190 y207 (t228 != t229)))))))) else (broadsidelaw5_RelMore.j2 kj21 x9_6 t190 y207 true)) = some r := H
                    have A45 := Aside0.mk A450
                    clear A450
                    by_cases c46 : t225 = true
                    · subst c46
                      have H1 : ((rel_Covers.f y207 x9_6).bind fun t226 => (if t226 = true then (broadsidelaw5_RelMore.j2 kj21 x9_6 t190 y207 true) else ((rel_Match.f kj21 y207 x12_21).bind fun t227 => (if t227 = true then (broadsidelaw5_RelMore.j2 kj21 x9_6 t190 y207 true) else ((rel_Match.f kj21 x9_6 x12_21).bind fun t228 => ((rel_Match.f kj21 x9_6 y222).bind fun t229 => (broadsidelaw5_RelMore.j2 kj21 x9_6 t190 y207 (t228 != t229)))))))) = some r := by rw [if_pos rfl] at H; exact H
                      clear H
                      have H := H1
                      clear H1
                      replace H := Option.bind_eq_some_iff.mp H
                      obtain ⟨t226, A470, H⟩ := H
                      replace H : (if t226 = true then (broadsidelaw5_RelMore.j2 kj21 x9_6 t190 y207 true) else ((rel_Match.f kj21 y207 x12_21).bind fun t227 => (if t227 = true then (broadsidelaw5_RelMore.j2 kj21 x9_6 t190 y207 true) else ((rel_Match.f kj21 x9_6 x12_21).bind fun t228 => ((rel_Match.f kj21 x9_6 y222).bind fun t229 => (broadsidelaw5_RelMore.j2 kj21 x9_6 t190 y207 (t228 != t229))))))) = some r := H
                      have A47 := Aside0.mk A470
                      clear A470
                      by_cases c48 : t226 = true
                      · subst c48
                        have H1 : (broadsidelaw5_RelMore.j2 kj21 x9_6 t190 y207 true) = some r := by rw [if_pos rfl] at H; exact H
                        clear H
                        have H := H1
                        clear H1
                        have H' := Aside0.mk H
                        clear H
                        obtain ⟨Ao49, co49, eo49⟩ := Kd.R_slice HO_11.out
                        subst eo49
                        go_wp2_with (first | ((with_reducible refine gate_callee (f := 11) rfl ?_); refine goesL_ (some 49) rfl rfl Try.func11 (by kernel_rfl) rfl #[.slice Ao26 x9_6.length co26, .slice Ao49 y207.length co49] rfl (by (try simp only [List.map_toArray, List.map_cons, List.map_nil]); first | done | rfl | (simp only [List.length_drop, List.length_take]; rfl)) ?_; (with_reducible refine (rel_Covers.calls _ _ x9_6 _ _ y207 true _ ?side1 ?side2 ?side3 ?side4 A45.out).mono ?_); (case side1 => repeat (first | exact (Kd.Q_reads' HO_9.out).2.2 | (with_reducible refine Kd.C_alloc ?_ _) | (with_reducible refine Kd.C_drewN ?_ _) | (with_reducible refine Kd.C_drew ?_))); (case side2 => exact (Kd.Q_reads' HO_9.out).2.1); (case side3 => repeat (first | exact (Kd.R_reads' HO_11.out).2.2 | (with_reducible refine Kd.C_alloc ?_ _) | (with_reducible refine Kd.C_drewN ?_ _) | (with_reducible refine Kd.C_drew ?_))); (case side4 => exact (Kd.R_reads' HO_11.out).2.1); rintro e w50 ⟨rfl, hb⟩; refine ⟨_, rfl, ?_⟩; have n0_ := Aside0.mk (Kd.Q_below (by (with_reducible repeat (first | apply Kd.Q_alloc | apply Kd.Q_drewN | apply Kd.Q_drew)); exact HO_9.out) hb); have n1_ := Aside0.mk (Kd.R_below (by (with_reducible repeat (first | apply Kd.R_alloc | apply Kd.R_drewN | apply Kd.R_drew)); exact HO_10.out) hb); have n2_ := Aside0.mk (Kd.R_below (by (with_reducible repeat (first | apply Kd.R_alloc | apply Kd.R_drewN | apply Kd.R_drew)); exact HO_11.out) hb); have n3_ := Aside0.mk (Kd.Q_below (by (with_reducible repeat (first | apply Kd.Q_alloc | apply Kd.Q_drewN | apply Kd.Q_drew)); exact HO_12.out) hb); have n4_ := Aside0.mk (Kd.R_below (by (with_reducible repeat (first | apply Kd.R_alloc | apply Kd.R_drewN | apply Kd.R_drew)); exact HO224.out) hb); have n5_ := Aside0.mk (blk_below (g := gb184) (o := .cells #[.slice A0_0 l0_0.length c0_0, .slice A0_1 l0_1.length c0_1] 29 (0, 0)) (by (with_reducible repeat (first | refine blk_drewN ?_ _ | refine blk_drew ?_ | refine blk_alloc ?_ _)); exact BK184.out) hb); have n6_ := Aside0.mk (blk_below (g := gb185) (o := .cells #[.slice A2_0 l2_0.length c2_0, .slice A2_1 l2_1.length c2_1] 30 (0, 0)) (by (with_reducible repeat (first | refine blk_drewN ?_ _ | refine blk_drew ?_ | refine blk_alloc ?_ _)); exact BK185.out) hb); have n7_ := Aside0.mk (blk_below (g := gb186) (o := .cells #[.slice A3_0 l3_0.length c3_0, .slice A3_1 l3_1.length c3_1] 29 (0, 0)) (by (with_reducible repeat (first | refine blk_drewN ?_ _ | refine blk_drew ?_ | refine blk_alloc ?_ _)); exact BK186.out) hb); have n8_ := Aside0.mk (below_step (by repeat (first | (with_reducible first | exact HB.out | apply below_alloc | apply pw_below_drewN | apply below_drew1 | refine below_set ?_ GE184.out | refine below_set ?_ GE185.out | refine below_set ?_ GE186.out) | exact HB.out)) hb); clear HO_9; clear HO_10; clear HO_11; clear HO_12; clear HO224; clear BK184; clear BK185; clear BK186; clear HB; have HO_9 := n0_; have HO_10 := n1_; have HO_11 := n2_; have HO_12 := n3_; have HO224 := n4_; have BK184 := n5_; have BK185 := n6_; have BK186 := n7_; have HB := n8_; clear n0_ n1_ n2_ n3_ n4_ n5_ n6_ n7_ n8_; (try clear hb); (try clear hb2); (try clear hk); (try clear hi)) | (go_at_call 11; (with_reducible refine (rel_Covers.calls _ _ y207 _ _ x9_6 true _ ?side1 ?side2 ?side3 ?side4 A47.out).mono ?_); (case side1 => repeat (first | exact (Kd.R_reads' HO_11.out).2.2 | (with_reducible refine Kd.C_alloc ?_ _) | (with_reducible refine Kd.C_drewN ?_ _) | (with_reducible refine Kd.C_drew ?_))); (case side2 => exact (Kd.R_reads' HO_11.out).2.1); (case side3 => repeat (first | exact (Kd.Q_reads' HO_9.out).2.2 | (with_reducible refine Kd.C_alloc ?_ _) | (with_reducible refine Kd.C_drewN ?_ _) | (with_reducible refine Kd.C_drew ?_))); (case side4 => exact (Kd.Q_reads' HO_9.out).2.1); rintro e w51 ⟨rfl, hb⟩; have n0_ := Aside0.mk (Kd.Q_below (by (with_reducible repeat (first | apply Kd.Q_alloc | apply Kd.Q_drewN | apply Kd.Q_drew)); exact HO_9.out) hb); have n1_ := Aside0.mk (Kd.R_below (by (with_reducible repeat (first | apply Kd.R_alloc | apply Kd.R_drewN | apply Kd.R_drew)); exact HO_10.out) hb); have n2_ := Aside0.mk (Kd.R_below (by (with_reducible repeat (first | apply Kd.R_alloc | apply Kd.R_drewN | apply Kd.R_drew)); exact HO_11.out) hb); have n3_ := Aside0.mk (Kd.Q_below (by (with_reducible repeat (first | apply Kd.Q_alloc | apply Kd.Q_drewN | apply Kd.Q_drew)); exact HO_12.out) hb); have n4_ := Aside0.mk (Kd.R_below (by (with_reducible repeat (first | apply Kd.R_alloc | apply Kd.R_drewN | apply Kd.R_drew)); exact HO224.out) hb); have n5_ := Aside0.mk (blk_below (g := gb184) (o := .cells #[.slice A0_0 l0_0.length c0_0, .slice A0_1 l0_1.length c0_1] 29 (0, 0)) (by (with_reducible repeat (first | refine blk_drewN ?_ _ | refine blk_drew ?_ | refine blk_alloc ?_ _)); exact BK184.out) hb); have n6_ := Aside0.mk (blk_below (g := gb185) (o := .cells #[.slice A2_0 l2_0.length c2_0, .slice A2_1 l2_1.length c2_1] 30 (0, 0)) (by (with_reducible repeat (first | refine blk_drewN ?_ _ | refine blk_drew ?_ | refine blk_alloc ?_ _)); exact BK185.out) hb); have n7_ := Aside0.mk (blk_below (g := gb186) (o := .cells #[.slice A3_0 l3_0.length c3_0, .slice A3_1 l3_1.length c3_1] 29 (0, 0)) (by (with_reducible repeat (first | refine blk_drewN ?_ _ | refine blk_drew ?_ | refine blk_alloc ?_ _)); exact BK186.out) hb); have n8_ := Aside0.mk (below_step (by repeat (first | (with_reducible first | exact HB.out | apply below_alloc | apply pw_below_drewN | apply below_drew1 | refine below_set ?_ GE184.out | refine below_set ?_ GE185.out | refine below_set ?_ GE186.out) | exact HB.out)) hb); clear HO_9; clear HO_10; clear HO_11; clear HO_12; clear HO224; clear BK184; clear BK185; clear BK186; clear HB; have HO_9 := n0_; have HO_10 := n1_; have HO_11 := n2_; have HO_12 := n3_; have HO224 := n4_; have BK184 := n5_; have BK185 := n6_; have BK186 := n7_; have HB := n8_; clear n0_ n1_ n2_ n3_ n4_ n5_ n6_ n7_ n8_; (try clear hb); (try clear hb2); (try clear hk); (try clear hi)))
                        go_meet
                        case rel => exact ⟨_, (true), (by first | rfl | (simp; done) | (simp [*]; done)), H', ⟨by have := HJ6.out; have := HJ21.out; first | omega | exact Nat.le_refl _⟩, ⟨by (with_reducible repeat (first | apply Kd.Q_alloc | apply Kd.Q_drewN | apply Kd.Q_drew)); exact HO_9.out⟩, ⟨by (with_reducible repeat (first | apply Kd.R_alloc | apply Kd.R_drewN | apply Kd.R_drew)); exact HO_10.out⟩, ⟨by (with_reducible repeat (first | apply Kd.R_alloc | apply Kd.R_drewN | apply Kd.R_drew)); exact HO_11.out⟩, ⟨by (with_reducible repeat (first | refine blk_drewN ?_ _ | refine blk_drew ?_ | refine blk_alloc ?_ _)); exact BK184.out⟩, ⟨by (with_reducible repeat (first | refine blk_drewN ?_ _ | refine blk_drew ?_ | refine blk_alloc ?_ _)); exact BK185.out⟩, ⟨by (with_reducible repeat (first | refine blk_drewN ?_ _ | refine blk_drew ?_ | refine blk_alloc ?_ _)); exact BK186.out⟩, ⟨by repeat (first | (with_reducible first | exact HB.out | apply below_alloc | apply pw_below_drewN | apply below_drew1 | refine below_set ?_ GE184.out | refine below_set ?_ GE185.out | refine below_set ?_ GE186.out) | exact HB.out)⟩⟩
                      · replace c48 := Bool.eq_false_iff.mpr c48
                        subst c48
                        have H1 : ((rel_Match.f kj21 y207 x12_21).bind fun t227 => (if t227 = true then (broadsidelaw5_RelMore.j2 kj21 x9_6 t190 y207 true) else ((rel_Match.f kj21 x9_6 x12_21).bind fun t228 => ((rel_Match.f kj21 x9_6 y222).bind fun t229 => (broadsidelaw5_RelMore.j2 kj21 x9_6 t190 y207 (t228 != t229)))))) = some r := by rw [if_neg (show ¬ (false = true) by decide)] at H; exact H
                        clear H
                        have H := H1
                        clear H1
                        replace H := Option.bind_eq_some_iff.mp H
                        obtain ⟨t227, A520, H⟩ := H
                        replace H : (if t227 = true then (broadsidelaw5_RelMore.j2 kj21 x9_6 t190 y207 true) else ((rel_Match.f kj21 x9_6 x12_21).bind fun t228 => ((rel_Match.f kj21 x9_6 y222).bind fun t229 => (broadsidelaw5_RelMore.j2 kj21 x9_6 t190 y207 (t228 != t229))))) = some r := H
                        have A52 := Aside0.mk A520
                        clear A520
                        by_cases c53 : t227 = true
                        · subst c53
                          have H1 : (broadsidelaw5_RelMore.j2 kj21 x9_6 t190 y207 true) = some r := by rw [if_pos rfl] at H; exact H
                          clear H
                          have H := H1
                          clear H1
                          have H' := Aside0.mk H
                          clear H
                          obtain ⟨Ao54, co54, eo54⟩ := Kd.R_slice HO_11.out
                          subst eo54
                          go_wp2_with (first | ((with_reducible refine gate_callee (f := 11) rfl ?_); refine goesL_ (some 49) rfl rfl Try.func11 (by kernel_rfl) rfl #[.slice Ao26 x9_6.length co26, .slice Ao54 y207.length co54] rfl (by (try simp only [List.map_toArray, List.map_cons, List.map_nil]); first | done | rfl | (simp only [List.length_drop, List.length_take]; rfl)) ?_; (with_reducible refine (rel_Covers.calls _ _ x9_6 _ _ y207 true _ ?side1 ?side2 ?side3 ?side4 A45.out).mono ?_); (case side1 => repeat (first | exact (Kd.Q_reads' HO_9.out).2.2 | (with_reducible refine Kd.C_alloc ?_ _) | (with_reducible refine Kd.C_drewN ?_ _) | (with_reducible refine Kd.C_drew ?_))); (case side2 => exact (Kd.Q_reads' HO_9.out).2.1); (case side3 => repeat (first | exact (Kd.R_reads' HO_11.out).2.2 | (with_reducible refine Kd.C_alloc ?_ _) | (with_reducible refine Kd.C_drewN ?_ _) | (with_reducible refine Kd.C_drew ?_))); (case side4 => exact (Kd.R_reads' HO_11.out).2.1); rintro e w55 ⟨rfl, hb⟩; refine ⟨_, rfl, ?_⟩; have n0_ := Aside0.mk (Kd.Q_below (by (with_reducible repeat (first | apply Kd.Q_alloc | apply Kd.Q_drewN | apply Kd.Q_drew)); exact HO_9.out) hb); have n1_ := Aside0.mk (Kd.R_below (by (with_reducible repeat (first | apply Kd.R_alloc | apply Kd.R_drewN | apply Kd.R_drew)); exact HO_10.out) hb); have n2_ := Aside0.mk (Kd.R_below (by (with_reducible repeat (first | apply Kd.R_alloc | apply Kd.R_drewN | apply Kd.R_drew)); exact HO_11.out) hb); have n3_ := Aside0.mk (Kd.Q_below (by (with_reducible repeat (first | apply Kd.Q_alloc | apply Kd.Q_drewN | apply Kd.Q_drew)); exact HO_12.out) hb); have n4_ := Aside0.mk (Kd.R_below (by (with_reducible repeat (first | apply Kd.R_alloc | apply Kd.R_drewN | apply Kd.R_drew)); exact HO224.out) hb); have n5_ := Aside0.mk (blk_below (g := gb184) (o := .cells #[.slice A0_0 l0_0.length c0_0, .slice A0_1 l0_1.length c0_1] 29 (0, 0)) (by (with_reducible repeat (first | refine blk_drewN ?_ _ | refine blk_drew ?_ | refine blk_alloc ?_ _)); exact BK184.out) hb); have n6_ := Aside0.mk (blk_below (g := gb185) (o := .cells #[.slice A2_0 l2_0.length c2_0, .slice A2_1 l2_1.length c2_1] 30 (0, 0)) (by (with_reducible repeat (first | refine blk_drewN ?_ _ | refine blk_drew ?_ | refine blk_alloc ?_ _)); exact BK185.out) hb); have n7_ := Aside0.mk (blk_below (g := gb186) (o := .cells #[.slice A3_0 l3_0.length c3_0, .slice A3_1 l3_1.length c3_1] 29 (0, 0)) (by (with_reducible repeat (first | refine blk_drewN ?_ _ | refine blk_drew ?_ | refine blk_alloc ?_ _)); exact BK186.out) hb); have n8_ := Aside0.mk (below_step (by repeat (first | (with_reducible first | exact HB.out | apply below_alloc | apply pw_below_drewN | apply below_drew1 | refine below_set ?_ GE184.out | refine below_set ?_ GE185.out | refine below_set ?_ GE186.out) | exact HB.out)) hb); clear HO_9; clear HO_10; clear HO_11; clear HO_12; clear HO224; clear BK184; clear BK185; clear BK186; clear HB; have HO_9 := n0_; have HO_10 := n1_; have HO_11 := n2_; have HO_12 := n3_; have HO224 := n4_; have BK184 := n5_; have BK185 := n6_; have BK186 := n7_; have HB := n8_; clear n0_ n1_ n2_ n3_ n4_ n5_ n6_ n7_ n8_; (try clear hb); (try clear hb2); (try clear hk); (try clear hi)) | (go_at_call 11; (with_reducible refine (rel_Covers.calls _ _ y207 _ _ x9_6 false _ ?side1 ?side2 ?side3 ?side4 A47.out).mono ?_); (case side1 => repeat (first | exact (Kd.R_reads' HO_11.out).2.2 | (with_reducible refine Kd.C_alloc ?_ _) | (with_reducible refine Kd.C_drewN ?_ _) | (with_reducible refine Kd.C_drew ?_))); (case side2 => exact (Kd.R_reads' HO_11.out).2.1); (case side3 => repeat (first | exact (Kd.Q_reads' HO_9.out).2.2 | (with_reducible refine Kd.C_alloc ?_ _) | (with_reducible refine Kd.C_drewN ?_ _) | (with_reducible refine Kd.C_drew ?_))); (case side4 => exact (Kd.Q_reads' HO_9.out).2.1); rintro e w56 ⟨rfl, hb⟩; have n0_ := Aside0.mk (Kd.Q_below (by (with_reducible repeat (first | apply Kd.Q_alloc | apply Kd.Q_drewN | apply Kd.Q_drew)); exact HO_9.out) hb); have n1_ := Aside0.mk (Kd.R_below (by (with_reducible repeat (first | apply Kd.R_alloc | apply Kd.R_drewN | apply Kd.R_drew)); exact HO_10.out) hb); have n2_ := Aside0.mk (Kd.R_below (by (with_reducible repeat (first | apply Kd.R_alloc | apply Kd.R_drewN | apply Kd.R_drew)); exact HO_11.out) hb); have n3_ := Aside0.mk (Kd.Q_below (by (with_reducible repeat (first | apply Kd.Q_alloc | apply Kd.Q_drewN | apply Kd.Q_drew)); exact HO_12.out) hb); have n4_ := Aside0.mk (Kd.R_below (by (with_reducible repeat (first | apply Kd.R_alloc | apply Kd.R_drewN | apply Kd.R_drew)); exact HO224.out) hb); have n5_ := Aside0.mk (blk_below (g := gb184) (o := .cells #[.slice A0_0 l0_0.length c0_0, .slice A0_1 l0_1.length c0_1] 29 (0, 0)) (by (with_reducible repeat (first | refine blk_drewN ?_ _ | refine blk_drew ?_ | refine blk_alloc ?_ _)); exact BK184.out) hb); have n6_ := Aside0.mk (blk_below (g := gb185) (o := .cells #[.slice A2_0 l2_0.length c2_0, .slice A2_1 l2_1.length c2_1] 30 (0, 0)) (by (with_reducible repeat (first | refine blk_drewN ?_ _ | refine blk_drew ?_ | refine blk_alloc ?_ _)); exact BK185.out) hb); have n7_ := Aside0.mk (blk_below (g := gb186) (o := .cells #[.slice A3_0 l3_0.length c3_0, .slice A3_1 l3_1.length c3_1] 29 (0, 0)) (by (with_reducible repeat (first | refine blk_drewN ?_ _ | refine blk_drew ?_ | refine blk_alloc ?_ _)); exact BK186.out) hb); have n8_ := Aside0.mk (below_step (by repeat (first | (with_reducible first | exact HB.out | apply below_alloc | apply pw_below_drewN | apply below_drew1 | refine below_set ?_ GE184.out | refine below_set ?_ GE185.out | refine below_set ?_ GE186.out) | exact HB.out)) hb); clear HO_9; clear HO_10; clear HO_11; clear HO_12; clear HO224; clear BK184; clear BK185; clear BK186; clear HB; have HO_9 := n0_; have HO_10 := n1_; have HO_11 := n2_; have HO_12 := n3_; have HO224 := n4_; have BK184 := n5_; have BK185 := n6_; have BK186 := n7_; have HB := n8_; clear n0_ n1_ n2_ n3_ n4_ n5_ n6_ n7_ n8_; (try clear hb); (try clear hb2); (try clear hk); (try clear hi)) | (go_at_call 14; (with_reducible refine (rel_Match.calls kj21 _ _ y207 _ _ x12_21 true _ ?side1 ?side2 ?side3 ?side4 A52.out).mono ?_); (case side1 => repeat (first | exact (Kd.R_reads' HO_11.out).2.2 | (with_reducible refine Kd.C_alloc ?_ _) | (with_reducible refine Kd.C_drewN ?_ _) | (with_reducible refine Kd.C_drew ?_))); (case side2 => exact (Kd.R_reads' HO_11.out).2.1); (case side3 => repeat (first | exact (Kd.Q_reads' HO_12.out).2.2 | (with_reducible refine Kd.C_alloc ?_ _) | (with_reducible refine Kd.C_drewN ?_ _) | (with_reducible refine Kd.C_drew ?_))); (case side4 => exact (Kd.Q_reads' HO_12.out).2.1); rintro e w57 ⟨rfl, hb⟩; have n0_ := Aside0.mk (Kd.Q_below (by (with_reducible repeat (first | apply Kd.Q_alloc | apply Kd.Q_drewN | apply Kd.Q_drew)); exact HO_9.out) hb); have n1_ := Aside0.mk (Kd.R_below (by (with_reducible repeat (first | apply Kd.R_alloc | apply Kd.R_drewN | apply Kd.R_drew)); exact HO_10.out) hb); have n2_ := Aside0.mk (Kd.R_below (by (with_reducible repeat (first | apply Kd.R_alloc | apply Kd.R_drewN | apply Kd.R_drew)); exact HO_11.out) hb); have n3_ := Aside0.mk (Kd.Q_below (by (with_reducible repeat (first | apply Kd.Q_alloc | apply Kd.Q_drewN | apply Kd.Q_drew)); exact HO_12.out) hb); have n4_ := Aside0.mk (Kd.R_below (by (with_reducible repeat (first | apply Kd.R_alloc | apply Kd.R_drewN | apply Kd.R_drew)); exact HO224.out) hb); have n5_ := Aside0.mk (blk_below (g := gb184) (o := .cells #[.slice A0_0 l0_0.length c0_0, .slice A0_1 l0_1.length c0_1] 29 (0, 0)) (by (with_reducible repeat (first | refine blk_drewN ?_ _ | refine blk_drew ?_ | refine blk_alloc ?_ _)); exact BK184.out) hb); have n6_ := Aside0.mk (blk_below (g := gb185) (o := .cells #[.slice A2_0 l2_0.length c2_0, .slice A2_1 l2_1.length c2_1] 30 (0, 0)) (by (with_reducible repeat (first | refine blk_drewN ?_ _ | refine blk_drew ?_ | refine blk_alloc ?_ _)); exact BK185.out) hb); have n7_ := Aside0.mk (blk_below (g := gb186) (o := .cells #[.slice A3_0 l3_0.length c3_0, .slice A3_1 l3_1.length c3_1] 29 (0, 0)) (by (with_reducible repeat (first | refine blk_drewN ?_ _ | refine blk_drew ?_ | refine blk_alloc ?_ _)); exact BK186.out) hb); have n8_ := Aside0.mk (below_step (by repeat (first | (with_reducible first | exact HB.out | apply below_alloc | apply pw_below_drewN | apply below_drew1 | refine below_set ?_ GE184.out | refine below_set ?_ GE185.out | refine below_set ?_ GE186.out) | exact HB.out)) hb); clear HO_9; clear HO_10; clear HO_11; clear HO_12; clear HO224; clear BK184; clear BK185; clear BK186; clear HB; have HO_9 := n0_; have HO_10 := n1_; have HO_11 := n2_; have HO_12 := n3_; have HO224 := n4_; have BK184 := n5_; have BK185 := n6_; have BK186 := n7_; have HB := n8_; clear n0_ n1_ n2_ n3_ n4_ n5_ n6_ n7_ n8_; (try clear hb); (try clear hb2); (try clear hk); (try clear hi)))
                          go_meet
                          case rel => exact ⟨_, (true), (by first | rfl | (simp; done) | (simp [*]; done)), H', ⟨by have := HJ6.out; have := HJ21.out; first | omega | exact Nat.le_refl _⟩, ⟨by (with_reducible repeat (first | apply Kd.Q_alloc | apply Kd.Q_drewN | apply Kd.Q_drew)); exact HO_9.out⟩, ⟨by (with_reducible repeat (first | apply Kd.R_alloc | apply Kd.R_drewN | apply Kd.R_drew)); exact HO_10.out⟩, ⟨by (with_reducible repeat (first | apply Kd.R_alloc | apply Kd.R_drewN | apply Kd.R_drew)); exact HO_11.out⟩, ⟨by (with_reducible repeat (first | refine blk_drewN ?_ _ | refine blk_drew ?_ | refine blk_alloc ?_ _)); exact BK184.out⟩, ⟨by (with_reducible repeat (first | refine blk_drewN ?_ _ | refine blk_drew ?_ | refine blk_alloc ?_ _)); exact BK185.out⟩, ⟨by (with_reducible repeat (first | refine blk_drewN ?_ _ | refine blk_drew ?_ | refine blk_alloc ?_ _)); exact BK186.out⟩, ⟨by repeat (first | (with_reducible first | exact HB.out | apply below_alloc | apply pw_below_drewN | apply below_drew1 | refine below_set ?_ GE184.out | refine below_set ?_ GE185.out | refine below_set ?_ GE186.out) | exact HB.out)⟩⟩
                        · replace c53 := Bool.eq_false_iff.mpr c53
                          subst c53
                          have H1 : ((rel_Match.f kj21 x9_6 x12_21).bind fun t228 => ((rel_Match.f kj21 x9_6 y222).bind fun t229 => (broadsidelaw5_RelMore.j2 kj21 x9_6 t190 y207 (t228 != t229)))) = some r := by rw [if_neg (show ¬ (false = true) by decide)] at H; exact H
                          clear H
                          have H := H1
                          clear H1
                          replace H := Option.bind_eq_some_iff.mp H
                          obtain ⟨t228, A580, H⟩ := H
                          replace H : ((rel_Match.f kj21 x9_6 y222).bind fun t229 => (broadsidelaw5_RelMore.j2 kj21 x9_6 t190 y207 (t228 != t229))) = some r := H
                          have A58 := Aside0.mk A580
                          clear A580
                          replace H := Option.bind_eq_some_iff.mp H
                          obtain ⟨t229, A590, H⟩ := H
                          replace H : (broadsidelaw5_RelMore.j2 kj21 x9_6 t190 y207 (t228 != t229)) = some r := H
                          have A59 := Aside0.mk A590
                          clear A590
                          have H' := Aside0.mk H
                          clear H
                          obtain ⟨Ao60, co60, eo60⟩ := Kd.R_slice HO_11.out
                          subst eo60
                          go_wp2_with (first | ((with_reducible refine gate_callee (f := 11) rfl ?_); refine goesL_ (some 49) rfl rfl Try.func11 (by kernel_rfl) rfl #[.slice Ao26 x9_6.length co26, .slice Ao60 y207.length co60] rfl (by (try simp only [List.map_toArray, List.map_cons, List.map_nil]); first | done | rfl | (simp only [List.length_drop, List.length_take]; rfl)) ?_; (with_reducible refine (rel_Covers.calls _ _ x9_6 _ _ y207 true _ ?side1 ?side2 ?side3 ?side4 A45.out).mono ?_); (case side1 => repeat (first | exact (Kd.Q_reads' HO_9.out).2.2 | (with_reducible refine Kd.C_alloc ?_ _) | (with_reducible refine Kd.C_drewN ?_ _) | (with_reducible refine Kd.C_drew ?_))); (case side2 => exact (Kd.Q_reads' HO_9.out).2.1); (case side3 => repeat (first | exact (Kd.R_reads' HO_11.out).2.2 | (with_reducible refine Kd.C_alloc ?_ _) | (with_reducible refine Kd.C_drewN ?_ _) | (with_reducible refine Kd.C_drew ?_))); (case side4 => exact (Kd.R_reads' HO_11.out).2.1); rintro e w61 ⟨rfl, hb⟩; refine ⟨_, rfl, ?_⟩; have n0_ := Aside0.mk (Kd.Q_below (by (with_reducible repeat (first | apply Kd.Q_alloc | apply Kd.Q_drewN | apply Kd.Q_drew)); exact HO_9.out) hb); have n1_ := Aside0.mk (Kd.R_below (by (with_reducible repeat (first | apply Kd.R_alloc | apply Kd.R_drewN | apply Kd.R_drew)); exact HO_10.out) hb); have n2_ := Aside0.mk (Kd.R_below (by (with_reducible repeat (first | apply Kd.R_alloc | apply Kd.R_drewN | apply Kd.R_drew)); exact HO_11.out) hb); have n3_ := Aside0.mk (Kd.Q_below (by (with_reducible repeat (first | apply Kd.Q_alloc | apply Kd.Q_drewN | apply Kd.Q_drew)); exact HO_12.out) hb); have n4_ := Aside0.mk (Kd.R_below (by (with_reducible repeat (first | apply Kd.R_alloc | apply Kd.R_drewN | apply Kd.R_drew)); exact HO224.out) hb); have n5_ := Aside0.mk (blk_below (g := gb184) (o := .cells #[.slice A0_0 l0_0.length c0_0, .slice A0_1 l0_1.length c0_1] 29 (0, 0)) (by (with_reducible repeat (first | refine blk_drewN ?_ _ | refine blk_drew ?_ | refine blk_alloc ?_ _)); exact BK184.out) hb); have n6_ := Aside0.mk (blk_below (g := gb185) (o := .cells #[.slice A2_0 l2_0.length c2_0, .slice A2_1 l2_1.length c2_1] 30 (0, 0)) (by (with_reducible repeat (first | refine blk_drewN ?_ _ | refine blk_drew ?_ | refine blk_alloc ?_ _)); exact BK185.out) hb); have n7_ := Aside0.mk (blk_below (g := gb186) (o := .cells #[.slice A3_0 l3_0.length c3_0, .slice A3_1 l3_1.length c3_1] 29 (0, 0)) (by (with_reducible repeat (first | refine blk_drewN ?_ _ | refine blk_drew ?_ | refine blk_alloc ?_ _)); exact BK186.out) hb); have n8_ := Aside0.mk (below_step (by repeat (first | (with_reducible first | exact HB.out | apply below_alloc | apply pw_below_drewN | apply below_drew1 | refine below_set ?_ GE184.out | refine below_set ?_ GE185.out | refine below_set ?_ GE186.out) | exact HB.out)) hb); clear HO_9; clear HO_10; clear HO_11; clear HO_12; clear HO224; clear BK184; clear BK185; clear BK186; clear HB; have HO_9 := n0_; have HO_10 := n1_; have HO_11 := n2_; have HO_12 := n3_; have HO224 := n4_; have BK184 := n5_; have BK185 := n6_; have BK186 := n7_; have HB := n8_; clear n0_ n1_ n2_ n3_ n4_ n5_ n6_ n7_ n8_; (try clear hb); (try clear hb2); (try clear hk); (try clear hi)) | (go_at_call 11; (with_reducible refine (rel_Covers.calls _ _ y207 _ _ x9_6 false _ ?side1 ?side2 ?side3 ?side4 A47.out).mono ?_); (case side1 => repeat (first | exact (Kd.R_reads' HO_11.out).2.2 | (with_reducible refine Kd.C_alloc ?_ _) | (with_reducible refine Kd.C_drewN ?_ _) | (with_reducible refine Kd.C_drew ?_))); (case side2 => exact (Kd.R_reads' HO_11.out).2.1); (case side3 => repeat (first | exact (Kd.Q_reads' HO_9.out).2.2 | (with_reducible refine Kd.C_alloc ?_ _) | (with_reducible refine Kd.C_drewN ?_ _) | (with_reducible refine Kd.C_drew ?_))); (case side4 => exact (Kd.Q_reads' HO_9.out).2.1); rintro e w62 ⟨rfl, hb⟩; have n0_ := Aside0.mk (Kd.Q_below (by (with_reducible repeat (first | apply Kd.Q_alloc | apply Kd.Q_drewN | apply Kd.Q_drew)); exact HO_9.out) hb); have n1_ := Aside0.mk (Kd.R_below (by (with_reducible repeat (first | apply Kd.R_alloc | apply Kd.R_drewN | apply Kd.R_drew)); exact HO_10.out) hb); have n2_ := Aside0.mk (Kd.R_below (by (with_reducible repeat (first | apply Kd.R_alloc | apply Kd.R_drewN | apply Kd.R_drew)); exact HO_11.out) hb); have n3_ := Aside0.mk (Kd.Q_below (by (with_reducible repeat (first | apply Kd.Q_alloc | apply Kd.Q_drewN | apply Kd.Q_drew)); exact HO_12.out) hb); have n4_ := Aside0.mk (Kd.R_below (by (with_reducible repeat (first | apply Kd.R_alloc | apply Kd.R_drewN | apply Kd.R_drew)); exact HO224.out) hb); have n5_ := Aside0.mk (blk_below (g := gb184) (o := .cells #[.slice A0_0 l0_0.length c0_0, .slice A0_1 l0_1.length c0_1] 29 (0, 0)) (by (with_reducible repeat (first | refine blk_drewN ?_ _ | refine blk_drew ?_ | refine blk_alloc ?_ _)); exact BK184.out) hb); have n6_ := Aside0.mk (blk_below (g := gb185) (o := .cells #[.slice A2_0 l2_0.length c2_0, .slice A2_1 l2_1.length c2_1] 30 (0, 0)) (by (with_reducible repeat (first | refine blk_drewN ?_ _ | refine blk_drew ?_ | refine blk_alloc ?_ _)); exact BK185.out) hb); have n7_ := Aside0.mk (blk_below (g := gb186) (o := .cells #[.slice A3_0 l3_0.length c3_0, .slice A3_1 l3_1.length c3_1] 29 (0, 0)) (by (with_reducible repeat (first | refine blk_drewN ?_ _ | refine blk_drew ?_ | refine blk_alloc ?_ _)); exact BK186.out) hb); have n8_ := Aside0.mk (below_step (by repeat (first | (with_reducible first | exact HB.out | apply below_alloc | apply pw_below_drewN | apply below_drew1 | refine below_set ?_ GE184.out | refine below_set ?_ GE185.out | refine below_set ?_ GE186.out) | exact HB.out)) hb); clear HO_9; clear HO_10; clear HO_11; clear HO_12; clear HO224; clear BK184; clear BK185; clear BK186; clear HB; have HO_9 := n0_; have HO_10 := n1_; have HO_11 := n2_; have HO_12 := n3_; have HO224 := n4_; have BK184 := n5_; have BK185 := n6_; have BK186 := n7_; have HB := n8_; clear n0_ n1_ n2_ n3_ n4_ n5_ n6_ n7_ n8_; (try clear hb); (try clear hb2); (try clear hk); (try clear hi)) | (go_at_call 14; (with_reducible refine (rel_Match.calls kj21 _ _ y207 _ _ x12_21 false _ ?side1 ?side2 ?side3 ?side4 A52.out).mono ?_); (case side1 => repeat (first | exact (Kd.R_reads' HO_11.out).2.2 | (with_reducible refine Kd.C_alloc ?_ _) | (with_reducible refine Kd.C_drewN ?_ _) | (with_reducible refine Kd.C_drew ?_))); (case side2 => exact (Kd.R_reads' HO_11.out).2.1); (case side3 => repeat (first | exact (Kd.Q_reads' HO_12.out).2.2 | (with_reducible refine Kd.C_alloc ?_ _) | (with_reducible refine Kd.C_drewN ?_ _) | (with_reducible refine Kd.C_drew ?_))); (case side4 => exact (Kd.Q_reads' HO_12.out).2.1); rintro e w63 ⟨rfl, hb⟩; have n0_ := Aside0.mk (Kd.Q_below (by (with_reducible repeat (first | apply Kd.Q_alloc | apply Kd.Q_drewN | apply Kd.Q_drew)); exact HO_9.out) hb); have n1_ := Aside0.mk (Kd.R_below (by (with_reducible repeat (first | apply Kd.R_alloc | apply Kd.R_drewN | apply Kd.R_drew)); exact HO_10.out) hb); have n2_ := Aside0.mk (Kd.R_below (by (with_reducible repeat (first | apply Kd.R_alloc | apply Kd.R_drewN | apply Kd.R_drew)); exact HO_11.out) hb); have n3_ := Aside0.mk (Kd.Q_below (by (with_reducible repeat (first | apply Kd.Q_alloc | apply Kd.Q_drewN | apply Kd.Q_drew)); exact HO_12.out) hb); have n4_ := Aside0.mk (Kd.R_below (by (with_reducible repeat (first | apply Kd.R_alloc | apply Kd.R_drewN | apply Kd.R_drew)); exact HO224.out) hb); have n5_ := Aside0.mk (blk_below (g := gb184) (o := .cells #[.slice A0_0 l0_0.length c0_0, .slice A0_1 l0_1.length c0_1] 29 (0, 0)) (by (with_reducible repeat (first | refine blk_drewN ?_ _ | refine blk_drew ?_ | refine blk_alloc ?_ _)); exact BK184.out) hb); have n6_ := Aside0.mk (blk_below (g := gb185) (o := .cells #[.slice A2_0 l2_0.length c2_0, .slice A2_1 l2_1.length c2_1] 30 (0, 0)) (by (with_reducible repeat (first | refine blk_drewN ?_ _ | refine blk_drew ?_ | refine blk_alloc ?_ _)); exact BK185.out) hb); have n7_ := Aside0.mk (blk_below (g := gb186) (o := .cells #[.slice A3_0 l3_0.length c3_0, .slice A3_1 l3_1.length c3_1] 29 (0, 0)) (by (with_reducible repeat (first | refine blk_drewN ?_ _ | refine blk_drew ?_ | refine blk_alloc ?_ _)); exact BK186.out) hb); have n8_ := Aside0.mk (below_step (by repeat (first | (with_reducible first | exact HB.out | apply below_alloc | apply pw_below_drewN | apply below_drew1 | refine below_set ?_ GE184.out | refine below_set ?_ GE185.out | refine below_set ?_ GE186.out) | exact HB.out)) hb); clear HO_9; clear HO_10; clear HO_11; clear HO_12; clear HO224; clear BK184; clear BK185; clear BK186; clear HB; have HO_9 := n0_; have HO_10 := n1_; have HO_11 := n2_; have HO_12 := n3_; have HO224 := n4_; have BK184 := n5_; have BK185 := n6_; have BK186 := n7_; have HB := n8_; clear n0_ n1_ n2_ n3_ n4_ n5_ n6_ n7_ n8_; (try clear hb); (try clear hb2); (try clear hk); (try clear hi)) | (go_at_call 14; (with_reducible refine (rel_Match.calls kj21 _ _ x9_6 _ _ x12_21 t228 _ ?side1 ?side2 ?side3 ?side4 A58.out).mono ?_); (case side1 => repeat (first | exact (Kd.Q_reads' HO_9.out).2.2 | (with_reducible refine Kd.C_alloc ?_ _) | (with_reducible refine Kd.C_drewN ?_ _) | (with_reducible refine Kd.C_drew ?_))); (case side2 => exact (Kd.Q_reads' HO_9.out).2.1); (case side3 => repeat (first | exact (Kd.Q_reads' HO_12.out).2.2 | (with_reducible refine Kd.C_alloc ?_ _) | (with_reducible refine Kd.C_drewN ?_ _) | (with_reducible refine Kd.C_drew ?_))); (case side4 => exact (Kd.Q_reads' HO_12.out).2.1); rintro e w64 ⟨rfl, hb⟩; have n0_ := Aside0.mk (Kd.Q_below (by (with_reducible repeat (first | apply Kd.Q_alloc | apply Kd.Q_drewN | apply Kd.Q_drew)); exact HO_9.out) hb); have n1_ := Aside0.mk (Kd.R_below (by (with_reducible repeat (first | apply Kd.R_alloc | apply Kd.R_drewN | apply Kd.R_drew)); exact HO_10.out) hb); have n2_ := Aside0.mk (Kd.R_below (by (with_reducible repeat (first | apply Kd.R_alloc | apply Kd.R_drewN | apply Kd.R_drew)); exact HO_11.out) hb); have n3_ := Aside0.mk (Kd.Q_below (by (with_reducible repeat (first | apply Kd.Q_alloc | apply Kd.Q_drewN | apply Kd.Q_drew)); exact HO_12.out) hb); have n4_ := Aside0.mk (Kd.R_below (by (with_reducible repeat (first | apply Kd.R_alloc | apply Kd.R_drewN | apply Kd.R_drew)); exact HO224.out) hb); have n5_ := Aside0.mk (blk_below (g := gb184) (o := .cells #[.slice A0_0 l0_0.length c0_0, .slice A0_1 l0_1.length c0_1] 29 (0, 0)) (by (with_reducible repeat (first | refine blk_drewN ?_ _ | refine blk_drew ?_ | refine blk_alloc ?_ _)); exact BK184.out) hb); have n6_ := Aside0.mk (blk_below (g := gb185) (o := .cells #[.slice A2_0 l2_0.length c2_0, .slice A2_1 l2_1.length c2_1] 30 (0, 0)) (by (with_reducible repeat (first | refine blk_drewN ?_ _ | refine blk_drew ?_ | refine blk_alloc ?_ _)); exact BK185.out) hb); have n7_ := Aside0.mk (blk_below (g := gb186) (o := .cells #[.slice A3_0 l3_0.length c3_0, .slice A3_1 l3_1.length c3_1] 29 (0, 0)) (by (with_reducible repeat (first | refine blk_drewN ?_ _ | refine blk_drew ?_ | refine blk_alloc ?_ _)); exact BK186.out) hb); have n8_ := Aside0.mk (below_step (by repeat (first | (with_reducible first | exact HB.out | apply below_alloc | apply pw_below_drewN | apply below_drew1 | refine below_set ?_ GE184.out | refine below_set ?_ GE185.out | refine below_set ?_ GE186.out) | exact HB.out)) hb); clear HO_9; clear HO_10; clear HO_11; clear HO_12; clear HO224; clear BK184; clear BK185; clear BK186; clear HB; have HO_9 := n0_; have HO_10 := n1_; have HO_11 := n2_; have HO_12 := n3_; have HO224 := n4_; have BK184 := n5_; have BK185 := n6_; have BK186 := n7_; have HB := n8_; clear n0_ n1_ n2_ n3_ n4_ n5_ n6_ n7_ n8_; (try clear hb); (try clear hb2); (try clear hk); (try clear hi); obtain ⟨Ao65, co65, eo65⟩ := Kd.R_slice HO224.out; subst eo65) | (go_at_call 14; (with_reducible refine (rel_Match.calls kj21 _ _ x9_6 _ _ y222 t229 _ ?side1 ?side2 ?side3 ?side4 A59.out).mono ?_); (case side1 => repeat (first | exact (Kd.Q_reads' HO_9.out).2.2 | (with_reducible refine Kd.C_alloc ?_ _) | (with_reducible refine Kd.C_drewN ?_ _) | (with_reducible refine Kd.C_drew ?_))); (case side2 => exact (Kd.Q_reads' HO_9.out).2.1); (case side3 => repeat (first | exact (Kd.R_reads' HO224.out).2.2 | (with_reducible refine Kd.C_alloc ?_ _) | (with_reducible refine Kd.C_drewN ?_ _) | (with_reducible refine Kd.C_drew ?_))); (case side4 => exact (Kd.R_reads' HO224.out).2.1); rintro e w66 ⟨rfl, hb⟩; have n0_ := Aside0.mk (Kd.Q_below (by (with_reducible repeat (first | apply Kd.Q_alloc | apply Kd.Q_drewN | apply Kd.Q_drew)); exact HO_9.out) hb); have n1_ := Aside0.mk (Kd.R_below (by (with_reducible repeat (first | apply Kd.R_alloc | apply Kd.R_drewN | apply Kd.R_drew)); exact HO_10.out) hb); have n2_ := Aside0.mk (Kd.R_below (by (with_reducible repeat (first | apply Kd.R_alloc | apply Kd.R_drewN | apply Kd.R_drew)); exact HO_11.out) hb); have n3_ := Aside0.mk (Kd.Q_below (by (with_reducible repeat (first | apply Kd.Q_alloc | apply Kd.Q_drewN | apply Kd.Q_drew)); exact HO_12.out) hb); have n4_ := Aside0.mk (Kd.R_below (by (with_reducible repeat (first | apply Kd.R_alloc | apply Kd.R_drewN | apply Kd.R_drew)); exact HO224.out) hb); have n5_ := Aside0.mk (blk_below (g := gb184) (o := .cells #[.slice A0_0 l0_0.length c0_0, .slice A0_1 l0_1.length c0_1] 29 (0, 0)) (by (with_reducible repeat (first | refine blk_drewN ?_ _ | refine blk_drew ?_ | refine blk_alloc ?_ _)); exact BK184.out) hb); have n6_ := Aside0.mk (blk_below (g := gb185) (o := .cells #[.slice A2_0 l2_0.length c2_0, .slice A2_1 l2_1.length c2_1] 30 (0, 0)) (by (with_reducible repeat (first | refine blk_drewN ?_ _ | refine blk_drew ?_ | refine blk_alloc ?_ _)); exact BK185.out) hb); have n7_ := Aside0.mk (blk_below (g := gb186) (o := .cells #[.slice A3_0 l3_0.length c3_0, .slice A3_1 l3_1.length c3_1] 29 (0, 0)) (by (with_reducible repeat (first | refine blk_drewN ?_ _ | refine blk_drew ?_ | refine blk_alloc ?_ _)); exact BK186.out) hb); have n8_ := Aside0.mk (below_step (by repeat (first | (with_reducible first | exact HB.out | apply below_alloc | apply pw_below_drewN | apply below_drew1 | refine below_set ?_ GE184.out | refine below_set ?_ GE185.out | refine below_set ?_ GE186.out) | exact HB.out)) hb); clear HO_9; clear HO_10; clear HO_11; clear HO_12; clear HO224; clear BK184; clear BK185; clear BK186; clear HB; have HO_9 := n0_; have HO_10 := n1_; have HO_11 := n2_; have HO_12 := n3_; have HO224 := n4_; have BK184 := n5_; have BK185 := n6_; have BK186 := n7_; have HB := n8_; clear n0_ n1_ n2_ n3_ n4_ n5_ n6_ n7_ n8_; (try clear hb); (try clear hb2); (try clear hk); (try clear hi)))
                          go_meet
                          case rel => exact ⟨_, ((t228 != t229)), (by first | rfl | (simp; done) | (simp [*]; done)), H', ⟨by have := HJ6.out; have := HJ21.out; first | omega | exact Nat.le_refl _⟩, ⟨by (with_reducible repeat (first | apply Kd.Q_alloc | apply Kd.Q_drewN | apply Kd.Q_drew)); exact HO_9.out⟩, ⟨by (with_reducible repeat (first | apply Kd.R_alloc | apply Kd.R_drewN | apply Kd.R_drew)); exact HO_10.out⟩, ⟨by (with_reducible repeat (first | apply Kd.R_alloc | apply Kd.R_drewN | apply Kd.R_drew)); exact HO_11.out⟩, ⟨by (with_reducible repeat (first | refine blk_drewN ?_ _ | refine blk_drew ?_ | refine blk_alloc ?_ _)); exact BK184.out⟩, ⟨by (with_reducible repeat (first | refine blk_drewN ?_ _ | refine blk_drew ?_ | refine blk_alloc ?_ _)); exact BK185.out⟩, ⟨by (with_reducible repeat (first | refine blk_drewN ?_ _ | refine blk_drew ?_ | refine blk_alloc ?_ _)); exact BK186.out⟩, ⟨by repeat (first | (with_reducible first | exact HB.out | apply below_alloc | apply pw_below_drewN | apply below_drew1 | refine below_set ?_ GE184.out | refine below_set ?_ GE185.out | refine below_set ?_ GE186.out) | exact HB.out)⟩⟩
                    · replace c46 := Bool.eq_false_iff.mpr c46
                      subst c46
                      have H1 : (broadsidelaw5_RelMore.j2 kj21 x9_6 t190 y207 true) = some r := by rw [if_neg (show ¬ (false = true) by decide)] at H; exact H
                      clear H
                      have H := H1
                      clear H1
                      have H' := Aside0.mk H
                      clear H
                      obtain ⟨Ao67, co67, eo67⟩ := Kd.R_slice HO_11.out
                      subst eo67
                      go_wp2_with (first | ((with_reducible refine gate_callee (f := 11) rfl ?_); refine goesL_ (some 49) rfl rfl Try.func11 (by kernel_rfl) rfl #[.slice Ao26 x9_6.length co26, .slice Ao67 y207.length co67] rfl (by (try simp only [List.map_toArray, List.map_cons, List.map_nil]); first | done | rfl | (simp only [List.length_drop, List.length_take]; rfl)) ?_; (with_reducible refine (rel_Covers.calls _ _ x9_6 _ _ y207 false _ ?side1 ?side2 ?side3 ?side4 A45.out).mono ?_); (case side1 => repeat (first | exact (Kd.Q_reads' HO_9.out).2.2 | (with_reducible refine Kd.C_alloc ?_ _) | (with_reducible refine Kd.C_drewN ?_ _) | (with_reducible refine Kd.C_drew ?_))); (case side2 => exact (Kd.Q_reads' HO_9.out).2.1); (case side3 => repeat (first | exact (Kd.R_reads' HO_11.out).2.2 | (with_reducible refine Kd.C_alloc ?_ _) | (with_reducible refine Kd.C_drewN ?_ _) | (with_reducible refine Kd.C_drew ?_))); (case side4 => exact (Kd.R_reads' HO_11.out).2.1); rintro e w68 ⟨rfl, hb⟩; refine ⟨_, rfl, ?_⟩; have n0_ := Aside0.mk (Kd.Q_below (by (with_reducible repeat (first | apply Kd.Q_alloc | apply Kd.Q_drewN | apply Kd.Q_drew)); exact HO_9.out) hb); have n1_ := Aside0.mk (Kd.R_below (by (with_reducible repeat (first | apply Kd.R_alloc | apply Kd.R_drewN | apply Kd.R_drew)); exact HO_10.out) hb); have n2_ := Aside0.mk (Kd.R_below (by (with_reducible repeat (first | apply Kd.R_alloc | apply Kd.R_drewN | apply Kd.R_drew)); exact HO_11.out) hb); have n3_ := Aside0.mk (Kd.Q_below (by (with_reducible repeat (first | apply Kd.Q_alloc | apply Kd.Q_drewN | apply Kd.Q_drew)); exact HO_12.out) hb); have n4_ := Aside0.mk (Kd.R_below (by (with_reducible repeat (first | apply Kd.R_alloc | apply Kd.R_drewN | apply Kd.R_drew)); exact HO224.out) hb); have n5_ := Aside0.mk (blk_below (g := gb184) (o := .cells #[.slice A0_0 l0_0.length c0_0, .slice A0_1 l0_1.length c0_1] 29 (0, 0)) (by (with_reducible repeat (first | refine blk_drewN ?_ _ | refine blk_drew ?_ | refine blk_alloc ?_ _)); exact BK184.out) hb); have n6_ := Aside0.mk (blk_below (g := gb185) (o := .cells #[.slice A2_0 l2_0.length c2_0, .slice A2_1 l2_1.length c2_1] 30 (0, 0)) (by (with_reducible repeat (first | refine blk_drewN ?_ _ | refine blk_drew ?_ | refine blk_alloc ?_ _)); exact BK185.out) hb); have n7_ := Aside0.mk (blk_below (g := gb186) (o := .cells #[.slice A3_0 l3_0.length c3_0, .slice A3_1 l3_1.length c3_1] 29 (0, 0)) (by (with_reducible repeat (first | refine blk_drewN ?_ _ | refine blk_drew ?_ | refine blk_alloc ?_ _)); exact BK186.out) hb); have n8_ := Aside0.mk (below_step (by repeat (first | (with_reducible first | exact HB.out | apply below_alloc | apply pw_below_drewN | apply below_drew1 | refine below_set ?_ GE184.out | refine below_set ?_ GE185.out | refine below_set ?_ GE186.out) | exact HB.out)) hb); clear HO_9; clear HO_10; clear HO_11; clear HO_12; clear HO224; clear BK184; clear BK185; clear BK186; clear HB; have HO_9 := n0_; have HO_10 := n1_; have HO_11 := n2_; have HO_12 := n3_; have HO224 := n4_; have BK184 := n5_; have BK185 := n6_; have BK186 := n7_; have HB := n8_; clear n0_ n1_ n2_ n3_ n4_ n5_ n6_ n7_ n8_; (try clear hb); (try clear hb2); (try clear hk); (try clear hi)))
                      go_meet
                      case rel => exact ⟨_, (true), (by first | rfl | (simp; done) | (simp [*]; done)), H', ⟨by have := HJ6.out; have := HJ21.out; first | omega | exact Nat.le_refl _⟩, ⟨by (with_reducible repeat (first | apply Kd.Q_alloc | apply Kd.Q_drewN | apply Kd.Q_drew)); exact HO_9.out⟩, ⟨by (with_reducible repeat (first | apply Kd.R_alloc | apply Kd.R_drewN | apply Kd.R_drew)); exact HO_10.out⟩, ⟨by (with_reducible repeat (first | apply Kd.R_alloc | apply Kd.R_drewN | apply Kd.R_drew)); exact HO_11.out⟩, ⟨by (with_reducible repeat (first | refine blk_drewN ?_ _ | refine blk_drew ?_ | refine blk_alloc ?_ _)); exact BK184.out⟩, ⟨by (with_reducible repeat (first | refine blk_drewN ?_ _ | refine blk_drew ?_ | refine blk_alloc ?_ _)); exact BK185.out⟩, ⟨by (with_reducible repeat (first | refine blk_drewN ?_ _ | refine blk_drew ?_ | refine blk_alloc ?_ _)); exact BK186.out⟩, ⟨by repeat (first | (with_reducible first | exact HB.out | apply below_alloc | apply pw_below_drewN | apply below_drew1 | refine below_set ?_ GE184.out | refine below_set ?_ GE185.out | refine below_set ?_ GE186.out) | exact HB.out)⟩⟩
                  case rest =>
                    clear HC39
                    try clear c1
                    try clear q1
                    try clear c2
                    try clear p2
                    try clear c3
                    try clear q3
                    try clear c4
                    try clear c5
                    try clear c7
                    try clear c11
                    try clear c12
                    try clear c13
                    try clear c15
                    try clear c15b0
                    try clear c15b1
                    try clear c16
                    try clear c16b0
                    try clear c16b1
                    try clear c17
                    try clear q17
                    try clear c18
                    try clear c20
                    try clear c29
                    try clear c30
                    try clear c34
                    try clear c34b0
                    try clear c34b1
                    try clear c35
                    try clear c35b0
                    try clear c35b1
                    try clear c36
                    try clear q36
                    try clear c37
                    try clear c38
                    try clear c46
                    try clear c48
                    try clear c53
                    try clear hcz31_0
                    try clear hcz31_1
                    try clear hfz31_0
                    try clear hfz31_1
                    try clear p2
                    try clear q1
                    try clear q17
                    try clear q3
                    try clear q36
                    obtain ⟨kq, x69_38, rfl, HA, HJ38, HO_9, HO_10, HO_11, BK184, BK185, BK186, HB⟩ := hcut
                    cases kq with
                    | zero => exact absurd HA.out (by simp [broadsidelaw5_RelMore.j2])
                    | succ kj38 =>
                      have H := HA.out
                      clear HA
                      simp only [broadsidelaw5_RelMore.j2] at H
                      by_cases c69 : x69_38 = true
                      · subst c69
                        have H1 : (some false) = some r := by rw [if_pos rfl] at H; exact H
                        clear H
                        have H := H1
                        clear H1
                        obtain rfl := Option.some.inj H
                        go_wp2
                        go_ret
                        exact ⟨by first | rfl | (simp [errW_none, errW_some] <;> rfl) | (simp [*, errW_none, errW_some] <;> rfl), by repeat (first | (with_reducible first | exact HB.out | apply below_alloc | apply pw_below_drewN | apply below_drew1 | refine below_set ?_ GE184.out | refine below_set ?_ GE185.out | refine below_set ?_ GE186.out) | exact HB.out)⟩
                      · replace c69 := Bool.eq_false_iff.mpr c69
                        subst c69
                        have H1 : ((rel_Meets.f kj38 y207 t190).bind fun t230 => (if t230 = true then ((rel_Meets.f kj38 x9_6 t190).bind fun t231 => (broadsidelaw5_RelMore.j3 kj38 x9_6 (!t231))) else (broadsidelaw5_RelMore.j3 kj38 x9_6 false))) = some r := by rw [if_neg (show ¬ (false = true) by decide)] at H; exact H
                        clear H
                        have H := H1
                        clear H1
                        have HC70 := Aside0.mk H
                        clear H
                        go_upto_region 11 with (fail)
                        go_cut [78] (fun v78 wc => ∃ (kq : Nat) (x78_69 : Bool), v78 = .bool x78_69 ∧ Aside0 (broadsidelaw5_RelMore.j3 kq x9_6 x78_69 = some r) ∧ Aside0 (kq ≤ kj38) ∧ Aside0 (Kd.Q k23 23 wc w.heap.size (fun _ => True) (.slice Ao26 x9_6.length co26) x9_6) ∧ Aside0 (wc.heap[gb184]? = some (.cells #[(.slice A0_0 l0_0.length c0_0), (.slice A0_1 l0_1.length c0_1)] 29 (0, 0))) ∧ Aside0 (wc.heap[gb185]? = some (.cells #[(.slice A2_0 l2_0.length c2_0), (.slice A2_1 l2_1.length c2_1)] 30 (0, 0))) ∧ Aside0 (wc.heap[gb186]? = some (.cells #[(.slice A3_0 l3_0.length c3_0), (.slice A3_1 l3_1.length c3_1)] 29 (0, 0))) ∧ Aside0 (Below w.heap.size w wc))
                        case first =>
                          have H := HC70.out
                          clear HC70
                          replace H := Option.bind_eq_some_iff.mp H
                          obtain ⟨t230, A710, H⟩ := H
                          replace H : (if t230 = true then ((rel_Meets.f kj38 x9_6 t190).bind fun t231 => (broadsidelaw5_RelMore.j3 kj38 x9_6 (!t231))) else (broadsidelaw5_RelMore.j3 kj38 x9_6 false)) = some r := H
                          have A71 := Aside0.mk A710
                          clear A710
                          by_cases c72 : t230 = true
                          · subst c72
                            have H1 : ((rel_Meets.f kj38 x9_6 t190).bind fun t231 => (broadsidelaw5_RelMore.j3 kj38 x9_6 (!t231))) = some r := by rw [if_pos rfl] at H; exact H
                            clear H
                            have H := H1
                            clear H1
                            replace H := Option.bind_eq_some_iff.mp H
                            obtain ⟨t231, A730, H⟩ := H
                            replace H : (broadsidelaw5_RelMore.j3 kj38 x9_6 (!t231)) = some r := H
                            have A73 := Aside0.mk A730
                            clear A730
                            have H' := Aside0.mk H
                            clear H
                            obtain ⟨Ao74, co74, eo74⟩ := Kd.R_slice HO_11.out
                            subst eo74
                            obtain ⟨Ao75, co75, eo75⟩ := Kd.R_slice HO_10.out
                            subst eo75
                            go_wp2_with (first | ((with_reducible refine gate_callee (f := 10) rfl ?_); refine goesL_ (some 72) rfl rfl Try.func10 (by kernel_rfl) rfl #[.slice Ao74 y207.length co74, .slice Ao75 t190.length co75] rfl (by (try simp only [List.map_toArray, List.map_cons, List.map_nil]); first | done | rfl | (simp only [List.length_drop, List.length_take]; rfl)) ?_; (with_reducible refine (rel_Meets.calls kj38 _ _ y207 _ _ t190 true _ ?side1 ?side2 ?side3 ?side4 A71.out).mono ?_); (case side1 => repeat (first | exact (Kd.R_reads' HO_11.out).2.2 | (with_reducible refine Kd.C_alloc ?_ _) | (with_reducible refine Kd.C_drewN ?_ _) | (with_reducible refine Kd.C_drew ?_))); (case side2 => exact (Kd.R_reads' HO_11.out).2.1); (case side3 => repeat (first | exact (Kd.R_reads' HO_10.out).2.2 | (with_reducible refine Kd.C_alloc ?_ _) | (with_reducible refine Kd.C_drewN ?_ _) | (with_reducible refine Kd.C_drew ?_))); (case side4 => exact (Kd.R_reads' HO_10.out).2.1); rintro e w76 ⟨rfl, hb⟩; refine ⟨_, rfl, ?_⟩; have n0_ := Aside0.mk (Kd.Q_below (by (with_reducible repeat (first | apply Kd.Q_alloc | apply Kd.Q_drewN | apply Kd.Q_drew)); exact HO_9.out) hb); have n1_ := Aside0.mk (Kd.R_below (by (with_reducible repeat (first | apply Kd.R_alloc | apply Kd.R_drewN | apply Kd.R_drew)); exact HO_10.out) hb); have n2_ := Aside0.mk (Kd.R_below (by (with_reducible repeat (first | apply Kd.R_alloc | apply Kd.R_drewN | apply Kd.R_drew)); exact HO_11.out) hb); have n3_ := Aside0.mk (blk_below (g := gb184) (o := .cells #[.slice A0_0 l0_0.length c0_0, .slice A0_1 l0_1.length c0_1] 29 (0, 0)) (by (with_reducible repeat (first | refine blk_drewN ?_ _ | refine blk_drew ?_ | refine blk_alloc ?_ _)); exact BK184.out) hb); have n4_ := Aside0.mk (blk_below (g := gb185) (o := .cells #[.slice A2_0 l2_0.length c2_0, .slice A2_1 l2_1.length c2_1] 30 (0, 0)) (by (with_reducible repeat (first | refine blk_drewN ?_ _ | refine blk_drew ?_ | refine blk_alloc ?_ _)); exact BK185.out) hb); have n5_ := Aside0.mk (blk_below (g := gb186) (o := .cells #[.slice A3_0 l3_0.length c3_0, .slice A3_1 l3_1.length c3_1] 29 (0, 0)) (by (with_reducible repeat (first | refine blk_drewN ?_ _ | refine blk_drew ?_ | refine blk_alloc ?_ _)); exact BK186.out) hb); have n6_ := Aside0.mk (below_step (by repeat (first | (with_reducible first | exact HB.out | apply below_alloc | apply pw_below_drewN | apply below_drew1 | refine below_set ?_ GE184.out | refine below_set ?_ GE185.out | refine below_set ?_ GE186.out) | exact HB.out)) hb); clear HO_9; clear HO_10; clear HO_11; clear BK184; clear BK185; clear BK186; clear HB; have HO_9 := n0_; have HO_10 := n1_; have HO_11 := n2_; have BK184 := n3_; have BK185 := n4_; have BK186 := n5_; have HB := n6_; clear n0_ n1_ n2_ n3_ n4_ n5_ n6_; (try clear hb); (try clear hb2); (try clear hk); (try clear hi)) | (go_at_call 10; (with_reducible refine (rel_Meets.calls kj38 _ _ x9_6 _ _ t190 t231 _ ?side1 ?side2 ?side3 ?side4 A73.out).mono ?_); (case side1 => repeat (first | exact (Kd.Q_reads' HO_9.out).2.2 | (with_reducible refine Kd.C_alloc ?_ _) | (with_reducible refine Kd.C_drewN ?_ _) | (with_reducible refine Kd.C_drew ?_))); (case side2 => exact (Kd.Q_reads' HO_9.out).2.1); (case side3 => repeat (first | exact (Kd.R_reads' HO_10.out).2.2 | (with_reducible refine Kd.C_alloc ?_ _) | (with_reducible refine Kd.C_drewN ?_ _) | (with_reducible refine Kd.C_drew ?_))); (case side4 => exact (Kd.R_reads' HO_10.out).2.1); rintro e w77 ⟨rfl, hb⟩; have n0_ := Aside0.mk (Kd.Q_below (by (with_reducible repeat (first | apply Kd.Q_alloc | apply Kd.Q_drewN | apply Kd.Q_drew)); exact HO_9.out) hb); have n1_ := Aside0.mk (Kd.R_below (by (with_reducible repeat (first | apply Kd.R_alloc | apply Kd.R_drewN | apply Kd.R_drew)); exact HO_10.out) hb); have n2_ := Aside0.mk (Kd.R_below (by (with_reducible repeat (first | apply Kd.R_alloc | apply Kd.R_drewN | apply Kd.R_drew)); exact HO_11.out) hb); have n3_ := Aside0.mk (blk_below (g := gb184) (o := .cells #[.slice A0_0 l0_0.length c0_0, .slice A0_1 l0_1.length c0_1] 29 (0, 0)) (by (with_reducible repeat (first | refine blk_drewN ?_ _ | refine blk_drew ?_ | refine blk_alloc ?_ _)); exact BK184.out) hb); have n4_ := Aside0.mk (blk_below (g := gb185) (o := .cells #[.slice A2_0 l2_0.length c2_0, .slice A2_1 l2_1.length c2_1] 30 (0, 0)) (by (with_reducible repeat (first | refine blk_drewN ?_ _ | refine blk_drew ?_ | refine blk_alloc ?_ _)); exact BK185.out) hb); have n5_ := Aside0.mk (blk_below (g := gb186) (o := .cells #[.slice A3_0 l3_0.length c3_0, .slice A3_1 l3_1.length c3_1] 29 (0, 0)) (by (with_reducible repeat (first | refine blk_drewN ?_ _ | refine blk_drew ?_ | refine blk_alloc ?_ _)); exact BK186.out) hb); have n6_ := Aside0.mk (below_step (by repeat (first | (with_reducible first | exact HB.out | apply below_alloc | apply pw_below_drewN | apply below_drew1 | refine below_set ?_ GE184.out | refine below_set ?_ GE185.out | refine below_set ?_ GE186.out) | exact HB.out)) hb); clear HO_9; clear HO_10; clear HO_11; clear BK184; clear BK185; clear BK186; clear HB; have HO_9 := n0_; have HO_10 := n1_; have HO_11 := n2_; have BK184 := n3_; have BK185 := n4_; have BK186 := n5_; have HB := n6_; clear n0_ n1_ n2_ n3_ n4_ n5_ n6_; (try clear hb); (try clear hb2); (try clear hk); (try clear hi)))
                            go_meet
                            case rel => exact ⟨_, (!t231), (by first | rfl | (simp; done) | (simp [*]; done)), H', ⟨by have := HJ6.out; have := HJ21.out; have := HJ38.out; first | omega | exact Nat.le_refl _⟩, ⟨by (with_reducible repeat (first | apply Kd.Q_alloc | apply Kd.Q_drewN | apply Kd.Q_drew)); exact Kd.Q_mono HO_9.out (fun _ hk => trivial)⟩, ⟨by (with_reducible repeat (first | refine blk_drewN ?_ _ | refine blk_drew ?_ | refine blk_alloc ?_ _)); exact BK184.out⟩, ⟨by (with_reducible repeat (first | refine blk_drewN ?_ _ | refine blk_drew ?_ | refine blk_alloc ?_ _)); exact BK185.out⟩, ⟨by (with_reducible repeat (first | refine blk_drewN ?_ _ | refine blk_drew ?_ | refine blk_alloc ?_ _)); exact BK186.out⟩, ⟨by repeat (first | (with_reducible first | exact HB.out | apply below_alloc | apply pw_below_drewN | apply below_drew1 | refine below_set ?_ GE184.out | refine below_set ?_ GE185.out | refine below_set ?_ GE186.out) | exact HB.out)⟩⟩
                          · replace c72 := Bool.eq_false_iff.mpr c72
                            subst c72
                            have H1 : (broadsidelaw5_RelMore.j3 kj38 x9_6 false) = some r := by rw [if_neg (show ¬ (false = true) by decide)] at H; exact H
                            clear H
                            have H := H1
                            clear H1
                            have H' := Aside0.mk H
                            clear H
                            obtain ⟨Ao78, co78, eo78⟩ := Kd.R_slice HO_11.out
                            subst eo78
                            obtain ⟨Ao79, co79, eo79⟩ := Kd.R_slice HO_10.out
                            subst eo79
                            go_wp2_with (first | ((with_reducible refine gate_callee (f := 10) rfl ?_); refine goesL_ (some 72) rfl rfl Try.func10 (by kernel_rfl) rfl #[.slice Ao78 y207.length co78, .slice Ao79 t190.length co79] rfl (by (try simp only [List.map_toArray, List.map_cons, List.map_nil]); first | done | rfl | (simp only [List.length_drop, List.length_take]; rfl)) ?_; (with_reducible refine (rel_Meets.calls kj38 _ _ y207 _ _ t190 false _ ?side1 ?side2 ?side3 ?side4 A71.out).mono ?_); (case side1 => repeat (first | exact (Kd.R_reads' HO_11.out).2.2 | (with_reducible refine Kd.C_alloc ?_ _) | (with_reducible refine Kd.C_drewN ?_ _) | (with_reducible refine Kd.C_drew ?_))); (case side2 => exact (Kd.R_reads' HO_11.out).2.1); (case side3 => repeat (first | exact (Kd.R_reads' HO_10.out).2.2 | (with_reducible refine Kd.C_alloc ?_ _) | (with_reducible refine Kd.C_drewN ?_ _) | (with_reducible refine Kd.C_drew ?_))); (case side4 => exact (Kd.R_reads' HO_10.out).2.1); rintro e w80 ⟨rfl, hb⟩; refine ⟨_, rfl, ?_⟩; have n0_ := Aside0.mk (Kd.Q_below (by (with_reducible repeat (first | apply Kd.Q_alloc | apply Kd.Q_drewN | apply Kd.Q_drew)); exact HO_9.out) hb); have n1_ := Aside0.mk (Kd.R_below (by (with_reducible repeat (first | apply Kd.R_alloc | apply Kd.R_drewN | apply Kd.R_drew)); exact HO_10.out) hb); have n2_ := Aside0.mk (Kd.R_below (by (with_reducible repeat (first | apply Kd.R_alloc | apply Kd.R_drewN | apply Kd.R_drew)); exact HO_11.out) hb); have n3_ := Aside0.mk (blk_below (g := gb184) (o := .cells #[.slice A0_0 l0_0.length c0_0, .slice A0_1 l0_1.length c0_1] 29 (0, 0)) (by (with_reducible repeat (first | refine blk_drewN ?_ _ | refine blk_drew ?_ | refine blk_alloc ?_ _)); exact BK184.out) hb); have n4_ := Aside0.mk (blk_below (g := gb185) (o := .cells #[.slice A2_0 l2_0.length c2_0, .slice A2_1 l2_1.length c2_1] 30 (0, 0)) (by (with_reducible repeat (first | refine blk_drewN ?_ _ | refine blk_drew ?_ | refine blk_alloc ?_ _)); exact BK185.out) hb); have n5_ := Aside0.mk (blk_below (g := gb186) (o := .cells #[.slice A3_0 l3_0.length c3_0, .slice A3_1 l3_1.length c3_1] 29 (0, 0)) (by (with_reducible repeat (first | refine blk_drewN ?_ _ | refine blk_drew ?_ | refine blk_alloc ?_ _)); exact BK186.out) hb); have n6_ := Aside0.mk (below_step (by repeat (first | (with_reducible first | exact HB.out | apply below_alloc | apply pw_below_drewN | apply below_drew1 | refine below_set ?_ GE184.out | refine below_set ?_ GE185.out | refine below_set ?_ GE186.out) | exact HB.out)) hb); clear HO_9; clear HO_10; clear HO_11; clear BK184; clear BK185; clear BK186; clear HB; have HO_9 := n0_; have HO_10 := n1_; have HO_11 := n2_; have BK184 := n3_; have BK185 := n4_; have BK186 := n5_; have HB := n6_; clear n0_ n1_ n2_ n3_ n4_ n5_ n6_; (try clear hb); (try clear hb2); (try clear hk); (try clear hi)))
                            go_meet
                            case rel => exact ⟨_, (false), (by first | rfl | (simp; done) | (simp [*]; done)), H', ⟨by have := HJ6.out; have := HJ21.out; have := HJ38.out; first | omega | exact Nat.le_refl _⟩, ⟨by (with_reducible repeat (first | apply Kd.Q_alloc | apply Kd.Q_drewN | apply Kd.Q_drew)); exact Kd.Q_mono HO_9.out (fun _ hk => trivial)⟩, ⟨by (with_reducible repeat (first | refine blk_drewN ?_ _ | refine blk_drew ?_ | refine blk_alloc ?_ _)); exact BK184.out⟩, ⟨by (with_reducible repeat (first | refine blk_drewN ?_ _ | refine blk_drew ?_ | refine blk_alloc ?_ _)); exact BK185.out⟩, ⟨by (with_reducible repeat (first | refine blk_drewN ?_ _ | refine blk_drew ?_ | refine blk_alloc ?_ _)); exact BK186.out⟩, ⟨by repeat (first | (with_reducible first | exact HB.out | apply below_alloc | apply pw_below_drewN | apply below_drew1 | refine below_set ?_ GE184.out | refine below_set ?_ GE185.out | refine below_set ?_ GE186.out) | exact HB.out)⟩⟩
                        case rest =>
                          clear HC70
                          try clear c1
                          try clear q1
                          try clear c2
                          try clear p2
                          try clear c3
                          try clear q3
                          try clear c4
                          try clear c5
                          try clear c6
                          try clear c7
                          try clear c10
                          try clear c11
                          try clear c12
                          try clear c13
                          try clear c15
                          try clear c15b0
                          try clear c15b1
                          try clear c16
                          try clear c16b0
                          try clear c16b1
                          try clear c17
                          try clear q17
                          try clear c18
                          try clear c20
                          try clear c29
                          try clear c30
                          try clear c34
                          try clear c34b0
                          try clear c34b1
                          try clear c35
                          try clear c35b0
                          try clear c35b1
                          try clear c36
                          try clear q36
                          try clear c37
                          try clear c38
                          try clear c46
                          try clear c48
                          try clear c53
                          try clear c69
                          try clear c72
                          try clear hcz31_0
                          try clear hcz31_1
                          try clear hfz31_0
                          try clear hfz31_1
                          try clear p2
                          try clear q1
                          try clear q17
                          try clear q3
                          try clear q36
                          obtain ⟨kq, x78_69, rfl, HA, HJ69, HO_9, BK184, BK185, BK186, HB⟩ := hcut
                          cases kq with
                          | zero => exact absurd HA.out (by simp [broadsidelaw5_RelMore.j3])
                          | succ kj69 =>
                            have H := HA.out
                            clear HA
                            simp only [broadsidelaw5_RelMore.j3] at H
                            by_cases c81 : x78_69 = true
                            · subst c81
                              have H1 : (some false) = some r := by rw [if_pos rfl] at H; exact H
                              clear H
                              have H := H1
                              clear H1
                              obtain rfl := Option.some.inj H
                              go_wp2
                              go_ret
                              exact ⟨by first | rfl | (simp [errW_none, errW_some] <;> rfl) | (simp [*, errW_none, errW_some] <;> rfl), by repeat (first | (with_reducible first | exact HB.out | apply below_alloc | apply pw_below_drewN | apply below_drew1 | refine below_set ?_ GE184.out | refine below_set ?_ GE185.out | refine below_set ?_ GE186.out) | exact HB.out)⟩
                            · replace c81 := Bool.eq_false_iff.mpr c81
                              subst c81
                              have H1 : ((some (([(⟨#[117]⟩ : ByteArray), (⟨#[118]⟩ : ByteArray), (⟨#[119]⟩ : ByteArray), (⟨#[120]⟩ : ByteArray), (⟨#[121]⟩ : ByteArray)] : List ByteArray) : List ByteArray)).bind fun y232 => (broadsidelaw5_RelMore.l0 kj69 x9_6 ([] : List (S23)) y232 (y232.length : Int) 0)) = some r := by rw [if_neg (show ¬ (false = true) by decide)] at H; exact H
                              clear H
                              have H := H1
                              clear H1
                              obtain ⟨y232, hy232⟩ : ∃ y_ : List ByteArray, y_ = (([(⟨#[117]⟩ : ByteArray), (⟨#[118]⟩ : ByteArray), (⟨#[119]⟩ : ByteArray), (⟨#[120]⟩ : ByteArray), (⟨#[121]⟩ : ByteArray)] : List ByteArray)) := ⟨_, rfl⟩
                              replace H : (broadsidelaw5_RelMore.l0 kj69 x9_6 ([] : List (S23)) y232 (y232.length : Int) 0) = some r := by first | (rw [hy232]; with_reducible exact H) | (have H2_ := (Option.bind_some _ _).symm.trans H; rw [hy232]; with_reducible exact H2_) | (have H2_ := (Option.bind_some _ _).symm.trans H; with_reducible exact H2_) | with_reducible exact H | (rw [hy232]; exact H) | exact H
                              have Ny232 := Aside0.mk hy232
                              clear hy232
                              have H' := Aside0.mk H
                              clear H
                              go_wp2_with (first | ((with_reducible refine gate_dst (N := 79) rfl ?_); refine Kd.R_lit Kd.string _ 9 ?hg (N := 79) ?hd (xs := ([(⟨#[117]⟩ : ByteArray), (⟨#[118]⟩ : ByteArray), (⟨#[119]⟩ : ByteArray), (⟨#[120]⟩ : ByteArray), (⟨#[121]⟩ : ByteArray)] : List ByteArray)) (inner := [.string (⟨#[117]⟩ : ByteArray), .string (⟨#[118]⟩ : ByteArray), .string (⟨#[119]⟩ : ByteArray), .string (⟨#[120]⟩ : ByteArray), .string (⟨#[121]⟩ : ByteArray)]) (ok := fun _ => True) (okp := fun _ => True) ?hr ?hp (fun _ hk => hk) trivial (Below.refl _ _) (Nat.le_refl _) (by simp) ?_; (case hd => rfl); (case hg => rfl); (case hr => first | (go_simp; done) | (go_simp; rfl)); (case hp => exact (Reps.one (show Kd.M Kd.string _ _ _ (⟨#[117]⟩ : ByteArray) [.string (⟨#[117]⟩ : ByteArray)] from rfl) (Reps.one (show Kd.M Kd.string _ _ _ (⟨#[118]⟩ : ByteArray) [.string (⟨#[118]⟩ : ByteArray)] from rfl) (Reps.one (show Kd.M Kd.string _ _ _ (⟨#[119]⟩ : ByteArray) [.string (⟨#[119]⟩ : ByteArray)] from rfl) (Reps.one (show Kd.M Kd.string _ _ _ (⟨#[120]⟩ : ByteArray) [.string (⟨#[120]⟩ : ByteArray)] from rfl) (Reps.one (show Kd.M Kd.string _ _ _ (⟨#[121]⟩ : ByteArray) [.string (⟨#[121]⟩ : ByteArray)] from rfl) (Reps.none _ _))))))); intro v233 w82 ho83 hb hg_ hnew_; clear hg_ hnew_; (first | rw [← Ny232.out] at ho83 | (simp only [Int.reduceToNat] at ho83; rw [← Ny232.out] at ho83)); have n0_ := Aside0.mk (Kd.Q_below (by (with_reducible repeat (first | apply Kd.Q_alloc | apply Kd.Q_drewN | apply Kd.Q_drew)); exact HO_9.out) hb); have n1_ := Aside0.mk (Kd.R_lower ho83 (below_size (by repeat (first | (with_reducible first | exact HB.out | apply below_alloc | apply pw_below_drewN | apply below_drew1 | refine below_set ?_ GE184.out | refine below_set ?_ GE185.out | refine below_set ?_ GE186.out) | exact HB.out)))); have n2_ := Aside0.mk (blk_below (g := gb184) (o := .cells #[.slice A0_0 l0_0.length c0_0, .slice A0_1 l0_1.length c0_1] 29 (0, 0)) (by (with_reducible repeat (first | refine blk_drewN ?_ _ | refine blk_drew ?_ | refine blk_alloc ?_ _)); exact BK184.out) hb); have n3_ := Aside0.mk (blk_below (g := gb185) (o := .cells #[.slice A2_0 l2_0.length c2_0, .slice A2_1 l2_1.length c2_1] 30 (0, 0)) (by (with_reducible repeat (first | refine blk_drewN ?_ _ | refine blk_drew ?_ | refine blk_alloc ?_ _)); exact BK185.out) hb); have n4_ := Aside0.mk (blk_below (g := gb186) (o := .cells #[.slice A3_0 l3_0.length c3_0, .slice A3_1 l3_1.length c3_1] 29 (0, 0)) (by (with_reducible repeat (first | refine blk_drewN ?_ _ | refine blk_drew ?_ | refine blk_alloc ?_ _)); exact BK186.out) hb); have n5_ := Aside0.mk (below_step (by repeat (first | (with_reducible first | exact HB.out | apply below_alloc | apply pw_below_drewN | apply below_drew1 | refine below_set ?_ GE184.out | refine below_set ?_ GE185.out | refine below_set ?_ GE186.out) | exact HB.out)) hb); clear HO_9; clear BK184; clear BK185; clear BK186; clear HB; have HO_9 := n0_; have HO234 := n1_; have BK184 := n2_; have BK185 := n3_; have BK186 := n4_; have HB := n5_; clear n0_ n1_ n2_ n3_ n4_ n5_; clear hb ho83; obtain ⟨Ao84, co84, eo84⟩ := Kd.R_slice HO234.out; subst eo84))
                              go_loopg [14, 81] kj69 (fun kq v14 v81 w' => ∃ (x14_5 : List (S23)) (x81_5 : Int), v81 = .int .i64 x81_5 ∧ Aside0 (broadsidelaw5_RelMore.l0 kq x9_6 x14_5 y232 (y232.length : Int) x81_5 = some r) ∧ Aside0 (kq ≤ kj69) ∧ Aside0 (Kd.Q k23 23 w' w.heap.size (fun k_ => some k_ ≠ (v14 : Value).ownBlock) (.slice Ao26 x9_6.length co26) x9_6) ∧ Aside0 (Kd.R k23 23 w' w.heap.size (fun k_ => some k_ ≠ ((.slice Ao26 x9_6.length co26) : Value).ownBlock) v14 x14_5) ∧ Aside0 (Kd.R Kd.string 9 w' w.heap.size (fun _ => True) (.slice Ao84 y232.length co84) y232) ∧ Aside0 (w'.heap[gb184]? = some (.cells #[(.slice A0_0 l0_0.length c0_0), (.slice A0_1 l0_1.length c0_1)] 29 (0, 0))) ∧ Aside0 (w'.heap[gb185]? = some (.cells #[(.slice A2_0 l2_0.length c2_0), (.slice A2_1 l2_1.length c2_1)] 30 (0, 0))) ∧ Aside0 (w'.heap[gb186]? = some (.cells #[(.slice A3_0 l3_0.length c3_0), (.slice A3_1 l3_1.length c3_1)] 29 (0, 0))) ∧ Aside0 (Below w.heap.size w w'))
                              case atStart => exact ⟨(([] : List (S23))), (0), (by first | rfl | (simp; done) | (simp [*]; done)), H', ⟨Nat.le_refl _⟩, ⟨by (with_reducible repeat (first | apply Kd.Q_alloc | apply Kd.Q_drewN | apply Kd.Q_drew)); exact Kd.Q_mono HO_9.out (fun _ hk => (by simp [Value.ownBlock]))⟩, ⟨by first | exact Kd.R_nil _ _ _ _ _ | exact Kd.N_nil _ _ _ _ _ | exact Kd.V_nil _ _ _ _ _ | exact Kd.Q_nil _ _ _ _ _ | exact Kd.S_nil _ _ _ _ _⟩, ⟨by (with_reducible repeat (first | apply Kd.R_alloc | apply Kd.R_drewN | apply Kd.R_drew)); exact HO234.out⟩, ⟨by (with_reducible repeat (first | refine blk_drewN ?_ _ | refine blk_drew ?_ | refine blk_alloc ?_ _)); exact BK184.out⟩, ⟨by (with_reducible repeat (first | refine blk_drewN ?_ _ | refine blk_drew ?_ | refine blk_alloc ?_ _)); exact BK185.out⟩, ⟨by (with_reducible repeat (first | refine blk_drewN ?_ _ | refine blk_drew ?_ | refine blk_alloc ?_ _)); exact BK186.out⟩, ⟨by repeat (first | (with_reducible first | exact HB.out | apply below_alloc | apply pw_below_drewN | apply below_drew1 | refine below_set ?_ GE184.out | refine below_set ?_ GE185.out | refine below_set ?_ GE186.out) | exact HB.out)⟩⟩
                              case round =>
                                clear H'
                                try clear c1
                                try clear q1
                                try clear c2
                                try clear p2
                                try clear c3
                                try clear q3
                                try clear c4
                                try clear c5
                                try clear c6
                                try clear c7
                                try clear c8
                                try clear c10
                                try clear c11
                                try clear c12
                                try clear c13
                                try clear c15
                                try clear c15b0
                                try clear c15b1
                                try clear c16
                                try clear c16b0
                                try clear c16b1
                                try clear c17
                                try clear q17
                                try clear c18
                                try clear c20
                                try clear c29
                                try clear c30
                                try clear c34
                                try clear c34b0
                                try clear c34b1
                                try clear c35
                                try clear c35b0
                                try clear c35b1
                                try clear c36
                                try clear q36
                                try clear c37
                                try clear c38
                                try clear c46
                                try clear c48
                                try clear c53
                                try clear c69
                                try clear c72
                                try clear c81
                                try clear hcz31_0
                                try clear hcz31_1
                                try clear hfz31_0
                                try clear hfz31_1
                                try clear p2
                                try clear q1
                                try clear q17
                                try clear q3
                                try clear q36
                                obtain ⟨x14_5, x81_5, rfl, HA, HK5, HO_9, HO_14, HO_79, BK184, BK185, BK186, HB⟩ := hrel
                                cases gk with
                                | zero => exact absurd HA.out (by simp [broadsidelaw5_RelMore.l0])
                                | succ k5 =>
                                  have H := HA.out
                                  clear HA
                                  simp only [broadsidelaw5_RelMore.l0] at H
                                  by_cases c85 : x81_5 < (y232.length : Int)
                                  · rw [if_pos c85] at H
                                    have c85b0 : decide (x81_5 < (y232.length : Int)) = true := decide_eq_true c85
                                    clear c85
                                    by_cases c86 : 0 ≤ x81_5
                                    · rw [if_pos c86] at H
                                      have c86b0 : decide (0 ≤ x81_5) = true := decide_eq_true c86
                                      clear c86
                                      by_cases c87 : x81_5 < (y232.length : Int)
                                      · rw [if_pos c87] at H
                                        have c87b0 : decide (x81_5 < (y232.length : Int)) = true := decide_eq_true c87
                                        clear c87
                                        by_cases c88 : x14_5.length < 2513169434916
                                        · rw [if_pos c88] at H
                                          have LMc88 := Aside0.mk c88
                                          clear c88
                                          obtain ⟨y236, hy236⟩ : ∃ y_ : List (S23), y_ = (x14_5 ++ [(⟨rdOf ByteArray.empty y232 x81_5, 3, 0, 0, (⟨#[]⟩ : ByteArray)⟩ : S23)]) := ⟨_, rfl⟩
                                          replace H : (broadsidelaw5_RelMore.l0 k5 x9_6 y236 y232 (y232.length : Int) (wrap64 (x81_5 + 1))) = some r := by first | (rw [hy236]; with_reducible exact H) | (have H2_ := (Option.bind_some _ _).symm.trans H; rw [hy236]; with_reducible exact H2_) | (have H2_ := (Option.bind_some _ _).symm.trans H; with_reducible exact H2_) | with_reducible exact H | (rw [hy236]; exact H) | exact H
                                          have Ny236 := Aside0.mk hy236
                                          clear hy236
                                          have H' := Aside0.mk H
                                          clear H
                                          have p235 : 0 ≤ (x81_5 : Int) := of_decide_eq_true (by first | (with_reducible assumption) | assumption)
                                          have q235 : x81_5 < (y232.length : Int) := of_decide_eq_true (by first | (with_reducible assumption) | assumption)
                                          obtain ⟨ad235, e235, hx235_0⟩ := Kd.at_string (Kd.R_reads' HO_79.out).2.2 x81_5 p235 q235
                                          cases e235
                                          replace p235 := eq_true p235
                                          replace q235 := eq_true q235
                                          go_wp2_with (first | ((with_reducible refine gate_builtin (b := .append) (xs := #[.tmp 85, .tmp 88]) rfl ?_); at_builtin; refine Kd.R_append k23 (w0 := w) w.heap.size rfl (.tmp 85) (.tmp 88) 25 23 (.agg #[(.string ⟨#[]⟩), (.int .i64 0), (.int .i64 0), (.int .i64 0), (.string ⟨#[]⟩)]) 56 rfl Try.underlying25 info23 rfl (by decide) (by omega) u14 x14_5 (⟨rdOf ByteArray.empty y232 x81_5, 3, 0, 0, (⟨#[]⟩ : ByteArray)⟩ : S23) [.string (rdOf ByteArray.empty y232 x81_5), .int .i64 3, .int .i64 0, .int .i64 0, .string (⟨#[]⟩ : ByteArray)] (fun k_ => some k_ ≠ (.slice Ao26 x9_6.length co26 : Value).ownBlock) (fun _ => False) rfl rfl ?aP (fun _ hk => hk.elim) ?aF ?aO ?aB ?aS ?aL ?_; (case aP => exact k23_mkM _ _ _ (⟨rdOf ByteArray.empty y232 x81_5, 3, 0, 0, (⟨#[]⟩ : ByteArray)⟩ : S23)); (case aB => exact (by repeat (first | (with_reducible first | exact HB.out | apply below_alloc | apply pw_below_drewN | apply below_drew1 | refine below_set ?_ GE184.out | refine below_set ?_ GE185.out | refine below_set ?_ GE186.out) | exact HB.out))); (case aF => exact (fun k_ hk => Kd.fresh' (Kd.Q_lt (by (with_reducible repeat (first | apply Kd.Q_alloc | apply Kd.Q_drewN | apply Kd.Q_drew)); exact HO_9.out)) k_ hk)); (case aO => exact (by (with_reducible repeat (first | apply Kd.R_alloc | apply Kd.R_drewN | apply Kd.R_drew)); exact HO_14.out)); (case aS => exact (below_size (by repeat (first | (with_reducible first | exact HB.out | apply below_alloc | apply pw_below_drewN | apply below_drew1 | refine below_set ?_ GE184.out | refine below_set ?_ GE185.out | refine below_set ?_ GE186.out) | exact HB.out)))); (case aL => have := LMc88.out; omega); intro v237 w89 ho hb hg hat; rw [← Ny236.out] at ho; have n0_ := Aside0.mk (Kd.Q_after (ok := (fun _ => True)) (by (with_reducible repeat (first | apply Kd.Q_alloc | apply Kd.Q_drewN | apply Kd.Q_drew)); exact Kd.Q_mono HO_9.out (fun _ hk => ⟨trivial, hk⟩)) hg hat); have n1_ := Aside0.mk (Kd.R_over' (by (with_reducible repeat (first | apply Kd.R_alloc | apply Kd.R_drewN | apply Kd.R_drew)); exact HO_79.out) (Kd.R_typed (by (with_reducible repeat (first | apply Kd.R_alloc | apply Kd.R_drewN | apply Kd.R_drew)); exact HO_14.out)) (by decide) hg); have n2_ := Aside0.mk (blk_grown (g := gb184) (o := .cells #[.slice A0_0 l0_0.length c0_0, .slice A0_1 l0_1.length c0_1] 29 (0, 0)) (by (with_reducible repeat (first | refine blk_drewN ?_ _ | refine blk_drew ?_ | refine blk_alloc ?_ _)); exact BK184.out) hg (Kd.R_ne HO_14.out BK184.out (by decide))); have n3_ := Aside0.mk (blk_grown (g := gb185) (o := .cells #[.slice A2_0 l2_0.length c2_0, .slice A2_1 l2_1.length c2_1] 30 (0, 0)) (by (with_reducible repeat (first | refine blk_drewN ?_ _ | refine blk_drew ?_ | refine blk_alloc ?_ _)); exact BK185.out) hg (Kd.R_ne HO_14.out BK185.out (by decide))); have n4_ := Aside0.mk (blk_grown (g := gb186) (o := .cells #[.slice A3_0 l3_0.length c3_0, .slice A3_1 l3_1.length c3_1] 29 (0, 0)) (by (with_reducible repeat (first | refine blk_drewN ?_ _ | refine blk_drew ?_ | refine blk_alloc ?_ _)); exact BK186.out) hg (Kd.R_ne HO_14.out BK186.out (by decide))); have n5_ := Aside0.mk (hb); have n6_ := Aside0.mk (ho); clear HO_9; clear HO_79; clear BK184; clear BK185; clear BK186; clear HB; clear HO_14; have HO_9 := n0_; have HO_79 := n1_; have BK184 := n2_; have BK185 := n3_; have BK186 := n4_; have HB := n5_; have HO238 := n6_; clear n0_ n1_ n2_ n3_ n4_ n5_ n6_; clear ho hb hg hat))
                                          go_roundg k5
                                          case measure => have := HJ6.out; have := HJ21.out; have := HJ38.out; have := HJ69.out; have := HK5.out; omega
                                          case rel => exact ⟨(y236), (wrap64 (x81_5 + 1)), (by first | rfl | (simp; done) | (simp [*]; done)), H', ⟨by have := HJ6.out; have := HJ21.out; have := HJ38.out; have := HJ69.out; have := HK5.out; omega⟩, ⟨by (with_reducible repeat (first | apply Kd.Q_alloc | apply Kd.Q_drewN | apply Kd.Q_drew)); exact Kd.Q_mono HO_9.out (fun _ hk => hk.2)⟩, ⟨by (with_reducible repeat (first | apply Kd.R_alloc | apply Kd.R_drewN | apply Kd.R_drew)); exact HO238.out⟩, ⟨by (with_reducible repeat (first | apply Kd.R_alloc | apply Kd.R_drewN | apply Kd.R_drew)); exact HO_79.out⟩, ⟨by (with_reducible repeat (first | refine blk_drewN ?_ _ | refine blk_drew ?_ | refine blk_alloc ?_ _)); exact BK184.out⟩, ⟨by (with_reducible repeat (first | refine blk_drewN ?_ _ | refine blk_drew ?_ | refine blk_alloc ?_ _)); exact BK185.out⟩, ⟨by (with_reducible repeat (first | refine blk_drewN ?_ _ | refine blk_drew ?_ | refine blk_alloc ?_ _)); exact BK186.out⟩, ⟨by repeat (first | (with_reducible first | exact HB.out | apply below_alloc | apply pw_below_drewN | apply below_drew1 | refine below_set ?_ GE184.out | refine below_set ?_ GE185.out | refine below_set ?_ GE186.out) | exact HB.out)⟩⟩
                                        · rw [if_neg c88] at H
                                          exact absurd H (by simp)
                                      · rw [if_neg c87] at H
                                        exact absurd H (by simp)
                                    · rw [if_neg c86] at H
                                      exact absurd H (by simp)
                                  · rw [if_neg c85] at H
                                    have c85b0 : decide (x81_5 < (y232.length : Int)) = false := decide_eq_false c85
                                    clear c85
                                    replace H := Option.bind_eq_some_iff.mp H
                                    obtain ⟨t239, A900, H⟩ := H
                                    replace H : (if (t239 == ((x9_6.length : Int) == 0)) = true then (if 3 ≤ (x14_5.length : Int) then ((rel_Meets.f k5 x14_5 (x14_5.take 3)).bind fun t244 => (if t244 = true then ((broadsidelaw5_RelRuns.f).bind fun t245 => (some t245)) else (some false))) else (none)) else (some false)) = some r := H
                                    have A90 := Aside0.mk A900
                                    clear A900
                                    by_cases c91 : (t239 == ((x9_6.length : Int) == 0)) = true
                                    · rw [if_pos c91] at H
                                      have c91b0 : (t239 == ((x9_6.length : Int) == 0)) = true := c91
                                      (try (have c91b1 : decide (t239 = ((x9_6.length : Int) == 0)) = true := by simpa using c91))
                                      (try (have c91b2 : (t239 == ((x9_6.length : Int) == 0)) = true := by simpa using c91))
                                      clear c91
                                      by_cases c92 : 3 ≤ (x14_5.length : Int)
                                      · rw [if_pos c92] at H
                                        have c92b0 := eq_true c92
                                        have c92b1 : decide (3 ≤ (x14_5.length : Int)) = true := decide_eq_true c92
                                        clear c92
                                        obtain ⟨y240, hy240⟩ : ∃ y_ : List (S23), y_ = (x14_5.take 3) := ⟨_, rfl⟩
                                        replace H : ((rel_Meets.f k5 x14_5 y240).bind fun t244 => (if t244 = true then ((broadsidelaw5_RelRuns.f).bind fun t245 => (some t245)) else (some false))) = some r := by first | (rw [hy240]; with_reducible exact H) | (have H2_ := (Option.bind_some _ _).symm.trans H; rw [hy240]; with_reducible exact H2_) | (have H2_ := (Option.bind_some _ _).symm.trans H; with_reducible exact H2_) | with_reducible exact H | (rw [hy240]; exact H) | exact H
                                        have Ny240 := Aside0.mk hy240
                                        clear hy240
                                        replace H := Option.bind_eq_some_iff.mp H
                                        obtain ⟨t244, A930, H⟩ := H
                                        replace H : (if t244 = true then ((broadsidelaw5_RelRuns.f).bind fun t245 => (some t245)) else (some false)) = some r := H
                                        have A93 := Aside0.mk A930
                                        clear A930
                                        by_cases c94 : t244 = true
                                        · subst c94
                                          have H1 : ((broadsidelaw5_RelRuns.f).bind fun t245 => (some t245)) = some r := by rw [if_pos rfl] at H; exact H
                                          clear H
                                          have H := H1
                                          clear H1
                                          replace H := Option.bind_eq_some_iff.mp H
                                          obtain ⟨t245, A950, H⟩ := H
                                          replace H : (some t245) = some r := H
                                          have A95 := Aside0.mk A950
                                          clear A950
                                          obtain rfl := Option.some.inj H
                                          obtain ⟨Ao96, co96, eo96⟩ := Kd.R_slice HO_14.out
                                          subst eo96
                                          go_wp2_with (first | ((with_reducible refine gate_callee (f := 10) rfl ?_); refine goesL_ (some 93) rfl rfl Try.func10 (by kernel_rfl) rfl #[.slice Ao96 x14_5.length co96, .slice Ao26 x9_6.length co26] rfl (by (try simp only [List.map_toArray, List.map_cons, List.map_nil]); first | done | rfl | (simp only [List.length_drop, List.length_take]; rfl)) ?_; (with_reducible refine (rel_Meets.calls k5 _ _ x14_5 _ _ x9_6 t239 _ ?side1 ?side2 ?side3 ?side4 A90.out).mono ?_); (case side1 => repeat (first | exact (Kd.R_reads' HO_14.out).2.2 | (with_reducible refine Kd.C_alloc ?_ _) | (with_reducible refine Kd.C_drewN ?_ _) | (with_reducible refine Kd.C_drew ?_))); (case side2 => exact (Kd.R_reads' HO_14.out).2.1); (case side3 => repeat (first | exact (Kd.Q_reads' HO_9.out).2.2 | (with_reducible refine Kd.C_alloc ?_ _) | (with_reducible refine Kd.C_drewN ?_ _) | (with_reducible refine Kd.C_drew ?_))); (case side4 => exact (Kd.Q_reads' HO_9.out).2.1); rintro e w97 ⟨rfl, hb⟩; refine ⟨_, rfl, ?_⟩; have n0_ := Aside0.mk (Kd.Q_below (by (with_reducible repeat (first | apply Kd.Q_alloc | apply Kd.Q_drewN | apply Kd.Q_drew)); exact HO_9.out) hb); have n1_ := Aside0.mk (Kd.R_below (by (with_reducible repeat (first | apply Kd.R_alloc | apply Kd.R_drewN | apply Kd.R_drew)); exact HO_14.out) hb); have n2_ := Aside0.mk (Kd.R_below (by (with_reducible repeat (first | apply Kd.R_alloc | apply Kd.R_drewN | apply Kd.R_drew)); exact HO_79.out) hb); have n3_ := Aside0.mk (blk_below (g := gb184) (o := .cells #[.slice A0_0 l0_0.length c0_0, .slice A0_1 l0_1.length c0_1] 29 (0, 0)) (by (with_reducible repeat (first | refine blk_drewN ?_ _ | refine blk_drew ?_ | refine blk_alloc ?_ _)); exact BK184.out) hb); have n4_ := Aside0.mk (blk_below (g := gb185) (o := .cells #[.slice A2_0 l2_0.length c2_0, .slice A2_1 l2_1.length c2_1] 30 (0, 0)) (by (with_reducible repeat (first | refine blk_drewN ?_ _ | refine blk_drew ?_ | refine blk_alloc ?_ _)); exact BK185.out) hb); have n5_ := Aside0.mk (blk_below (g := gb186) (o := .cells #[.slice A3_0 l3_0.length c3_0, .slice A3_1 l3_1.length c3_1] 29 (0, 0)) (by (with_reducible repeat (first | refine blk_drewN ?_ _ | refine blk_drew ?_ | refine blk_alloc ?_ _)); exact BK186.out) hb); have n6_ := Aside0.mk (below_step (by repeat (first | (with_reducible first | exact HB.out | apply below_alloc | apply pw_below_drewN | apply below_drew1 | refine below_set ?_ GE184.out | refine below_set ?_ GE185.out | refine below_set ?_ GE186.out) | exact HB.out)) hb); clear HO_9; clear HO_14; clear HO_79; clear BK184; clear BK185; clear BK186; clear HB; have HO_9 := n0_; have HO_14 := n1_; have HO_79 := n2_; have BK184 := n3_; have BK185 := n4_; have BK186 := n5_; have HB := n6_; clear n0_ n1_ n2_ n3_ n4_ n5_ n6_; (try clear hb); (try clear hb2); (try clear hk); (try clear hi); have q98 : (3 : Int) ≤ ((x14_5.length : Int) : Int) := of_decide_eq_true (by first | (with_reducible assumption) | assumption); obtain ⟨i098, hi098, _, hsz98, _⟩ := info_parts info23; have hroom98 : x14_5.length ≤ co96 := (Kd.R_reads' HO_14.out).2.1; have hC98 : Kd.C k23 _ Ao96 x14_5.length x14_5 := (Kd.R_reads' HO_14.out).2.2; have hcut98 := cut_to (P := Try.prog) 25 23 .i64 Try.underlying25 hi098 Ao96 x14_5.length co96 3 (by omega) q98 hroom98; have hr98 := Kd.C_take (m := 3) hC98 (by omega); have hy98 : y240.length = (3 : Int).toNat := (by rw [Ny240.out, List.length_take]; omega); rw [← Ny240.out] at hr98; rw [← hy98] at hcut98; have HR243 := Aside0.mk hr98; have HC243 := Aside0.mk (show y240.length ≤ co96 from by omega); clear hr98 hC98 hroom98 hi098 hsz98; have KY98 := Aside0.mk hy98; clear hy98; have KL98 := Aside0.mk (show 3 ≤ x14_5.length from by omega); replace q98 := eq_true q98) | (go_at_call 10; (with_reducible refine (rel_Meets.calls k5 _ _ x14_5 _ _ y240 true _ ?side1 ?side2 ?side3 ?side4 A93.out).mono ?_); (case side1 => repeat (first | exact (Kd.R_reads' HO_14.out).2.2 | (with_reducible refine Kd.C_alloc ?_ _) | (with_reducible refine Kd.C_drewN ?_ _) | (with_reducible refine Kd.C_drew ?_))); (case side2 => exact (Kd.R_reads' HO_14.out).2.1); (case side3 => repeat (first | exact (by repeat (first | (with_reducible exact HR243.out) | (with_reducible refine Kd.C_alloc ?_ _) | (with_reducible refine Kd.C_drewN ?_ _) | (with_reducible refine Kd.C_drew ?_) | exact HR243.out)) | (with_reducible refine Kd.C_alloc ?_ _) | (with_reducible refine Kd.C_drewN ?_ _) | (with_reducible refine Kd.C_drew ?_))); (case side4 => exact HC243.out); rintro e w99 ⟨rfl, hb⟩; have n0_ := Aside0.mk (Kd.Q_below (by (with_reducible repeat (first | apply Kd.Q_alloc | apply Kd.Q_drewN | apply Kd.Q_drew)); exact HO_9.out) hb); have n1_ := Aside0.mk (Kd.R_below (by (with_reducible repeat (first | apply Kd.R_alloc | apply Kd.R_drewN | apply Kd.R_drew)); exact HO_14.out) hb); have n2_ := Aside0.mk (Kd.R_below (by (with_reducible repeat (first | apply Kd.R_alloc | apply Kd.R_drewN | apply Kd.R_drew)); exact HO_79.out) hb); have n3_ := Aside0.mk (blk_below (g := gb184) (o := .cells #[.slice A0_0 l0_0.length c0_0, .slice A0_1 l0_1.length c0_1] 29 (0, 0)) (by (with_reducible repeat (first | refine blk_drewN ?_ _ | refine blk_drew ?_ | refine blk_alloc ?_ _)); exact BK184.out) hb); have n4_ := Aside0.mk (blk_below (g := gb185) (o := .cells #[.slice A2_0 l2_0.length c2_0, .slice A2_1 l2_1.length c2_1] 30 (0, 0)) (by (with_reducible repeat (first | refine blk_drewN ?_ _ | refine blk_drew ?_ | refine blk_alloc ?_ _)); exact BK185.out) hb); have n5_ := Aside0.mk (blk_below (g := gb186) (o := .cells #[.slice A3_0 l3_0.length c3_0, .slice A3_1 l3_1.length c3_1] 29 (0, 0)) (by (with_reducible repeat (first | refine blk_drewN ?_ _ | refine blk_drew ?_ | refine blk_alloc ?_ _)); exact BK186.out) hb); have n6_ := Aside0.mk (Kd.C_below (by repeat (first | (with_reducible exact HR243.out) | (with_reducible refine Kd.C_alloc ?_ _) | (with_reducible refine Kd.C_drewN ?_ _) | (with_reducible refine Kd.C_drew ?_) | exact HR243.out)) hb); have n7_ := Aside0.mk (below_step (by repeat (first | (with_reducible first | exact HB.out | apply below_alloc | apply pw_below_drewN | apply below_drew1 | refine below_set ?_ GE184.out | refine below_set ?_ GE185.out | refine below_set ?_ GE186.out) | exact HB.out)) hb); clear HO_9; clear HO_14; clear HO_79; clear BK184; clear BK185; clear BK186; clear HR243; clear HB; have HO_9 := n0_; have HO_14 := n1_; have HO_79 := n2_; have BK184 := n3_; have BK185 := n4_; have BK186 := n5_; have HR243 := n6_; have HB := n7_; clear n0_ n1_ n2_ n3_ n4_ n5_ n6_ n7_; (try clear hb); (try clear hb2); (try clear hk); (try clear hi)) | (go_at_call 3; (with_reducible refine (RelRunsP.calls  t245 _ A95.out).mono ?_); rintro e w100 ⟨rfl, hb⟩; have n0_ := Aside0.mk (Kd.Q_below (by (with_reducible repeat (first | apply Kd.Q_alloc | apply Kd.Q_drewN | apply Kd.Q_drew)); exact HO_9.out) hb); have n1_ := Aside0.mk (Kd.R_below (by (with_reducible repeat (first | apply Kd.R_alloc | apply Kd.R_drewN | apply Kd.R_drew)); exact HO_14.out) hb); have n2_ := Aside0.mk (Kd.R_below (by (with_reducible repeat (first | apply Kd.R_alloc | apply Kd.R_drewN | apply Kd.R_drew)); exact HO_79.out) hb); have n3_ := Aside0.mk (blk_below (g := gb184) (o := .cells #[.slice A0_0 l0_0.length c0_0, .slice A0_1 l0_1.length c0_1] 29 (0, 0)) (by (with_reducible repeat (first | refine blk_drewN ?_ _ | refine blk_drew ?_ | refine blk_alloc ?_ _)); exact BK184.out) hb); have n4_ := Aside0.mk (blk_below (g := gb185) (o := .cells #[.slice A2_0 l2_0.length c2_0, .slice A2_1 l2_1.length c2_1] 30 (0, 0)) (by (with_reducible repeat (first | refine blk_drewN ?_ _ | refine blk_drew ?_ | refine blk_alloc ?_ _)); exact BK185.out) hb); have n5_ := Aside0.mk (blk_below (g := gb186) (o := .cells #[.slice A3_0 l3_0.length c3_0, .slice A3_1 l3_1.length c3_1] 29 (0, 0)) (by (with_reducible repeat (first | refine blk_drewN ?_ _ | refine blk_drew ?_ | refine blk_alloc ?_ _)); exact BK186.out) hb); have n6_ := Aside0.mk (Kd.C_below (by repeat (first | (with_reducible exact HR243.out) | (with_reducible refine Kd.C_alloc ?_ _) | (with_reducible refine Kd.C_drewN ?_ _) | (with_reducible refine Kd.C_drew ?_) | exact HR243.out)) hb); have n7_ := Aside0.mk (below_step (by repeat (first | (with_reducible first | exact HB.out | apply below_alloc | apply pw_below_drewN | apply below_drew1 | refine below_set ?_ GE184.out | refine below_set ?_ GE185.out | refine below_set ?_ GE186.out) | exact HB.out)) hb); clear HO_9; clear HO_14; clear HO_79; clear BK184; clear BK185; clear BK186; clear HR243; clear HB; have HO_9 := n0_; have HO_14 := n1_; have HO_79 := n2_; have BK184 := n3_; have BK185 := n4_; have BK186 := n5_; have HR243 := n6_; have HB := n7_; clear n0_ n1_ n2_ n3_ n4_ n5_ n6_ n7_; (try clear hb); (try clear hb2); (try clear hk); (try clear hi)))
                                          go_ret
                                          exact ⟨by first | rfl | (simp [errW_none, errW_some] <;> rfl) | (simp [*, errW_none, errW_some] <;> rfl), by repeat (first | (with_reducible first | exact HB.out | apply below_alloc | apply pw_below_drewN | apply below_drew1 | refine below_set ?_ GE184.out | refine below_set ?_ GE185.out | refine below_set ?_ GE186.out) | exact HB.out)⟩
                                        · replace c94 := Bool.eq_false_iff.mpr c94
                                          subst c94
                                          have H1 : (some false) = some r := by rw [if_neg (show ¬ (false = true) by decide)] at H; exact H
                                          clear H
                                          have H := H1
                                          clear H1
                                          obtain rfl := Option.some.inj H
                                          obtain ⟨Ao101, co101, eo101⟩ := Kd.R_slice HO_14.out
                                          subst eo101
                                          go_wp2_with (first | ((with_reducible refine gate_callee (f := 10) rfl ?_); refine goesL_ (some 93) rfl rfl Try.func10 (by kernel_rfl) rfl #[.slice Ao101 x14_5.length co101, .slice Ao26 x9_6.length co26] rfl (by (try simp only [List.map_toArray, List.map_cons, List.map_nil]); first | done | rfl | (simp only [List.length_drop, List.length_take]; rfl)) ?_; (with_reducible refine (rel_Meets.calls k5 _ _ x14_5 _ _ x9_6 t239 _ ?side1 ?side2 ?side3 ?side4 A90.out).mono ?_); (case side1 => repeat (first | exact (Kd.R_reads' HO_14.out).2.2 | (with_reducible refine Kd.C_alloc ?_ _) | (with_reducible refine Kd.C_drewN ?_ _) | (with_reducible refine Kd.C_drew ?_))); (case side2 => exact (Kd.R_reads' HO_14.out).2.1); (case side3 => repeat (first | exact (Kd.Q_reads' HO_9.out).2.2 | (with_reducible refine Kd.C_alloc ?_ _) | (with_reducible refine Kd.C_drewN ?_ _) | (with_reducible refine Kd.C_drew ?_))); (case side4 => exact (Kd.Q_reads' HO_9.out).2.1); rintro e w102 ⟨rfl, hb⟩; refine ⟨_, rfl, ?_⟩; have n0_ := Aside0.mk (Kd.Q_below (by (with_reducible repeat (first | apply Kd.Q_alloc | apply Kd.Q_drewN | apply Kd.Q_drew)); exact HO_9.out) hb); have n1_ := Aside0.mk (Kd.R_below (by (with_reducible repeat (first | apply Kd.R_alloc | apply Kd.R_drewN | apply Kd.R_drew)); exact HO_14.out) hb); have n2_ := Aside0.mk (Kd.R_below (by (with_reducible repeat (first | apply Kd.R_alloc | apply Kd.R_drewN | apply Kd.R_drew)); exact HO_79.out) hb); have n3_ := Aside0.mk (blk_below (g := gb184) (o := .cells #[.slice A0_0 l0_0.length c0_0, .slice A0_1 l0_1.length c0_1] 29 (0, 0)) (by (with_reducible repeat (first | refine blk_drewN ?_ _ | refine blk_drew ?_ | refine blk_alloc ?_ _)); exact BK184.out) hb); have n4_ := Aside0.mk (blk_below (g := gb185) (o := .cells #[.slice A2_0 l2_0.length c2_0, .slice A2_1 l2_1.length c2_1] 30 (0, 0)) (by (with_reducible repeat (first | refine blk_drewN ?_ _ | refine blk_drew ?_ | refine blk_alloc ?_ _)); exact BK185.out) hb); have n5_ := Aside0.mk (blk_below (g := gb186) (o := .cells #[.slice A3_0 l3_0.length c3_0, .slice A3_1 l3_1.length c3_1] 29 (0, 0)) (by (with_reducible repeat (first | refine blk_drewN ?_ _ | refine blk_drew ?_ | refine blk_alloc ?_ _)); exact BK186.out) hb); have n6_ := Aside0.mk (below_step (by repeat (first | (with_reducible first | exact HB.out | apply below_alloc | apply pw_below_drewN | apply below_drew1 | refine below_set ?_ GE184.out | refine below_set ?_ GE185.out | refine below_set ?_ GE186.out) | exact HB.out)) hb); clear HO_9; clear HO_14; clear HO_79; clear BK184; clear BK185; clear BK186; clear HB; have HO_9 := n0_; have HO_14 := n1_; have HO_79 := n2_; have BK184 := n3_; have BK185 := n4_; have BK186 := n5_; have HB := n6_; clear n0_ n1_ n2_ n3_ n4_ n5_ n6_; (try clear hb); (try clear hb2); (try clear hk); (try clear hi); have q103 : (3 : Int) ≤ ((x14_5.length : Int) : Int) := of_decide_eq_true (by first | (with_reducible assumption) | assumption); obtain ⟨i0103, hi0103, _, hsz103, _⟩ := info_parts info23; have hroom103 : x14_5.length ≤ co101 := (Kd.R_reads' HO_14.out).2.1; have hC103 : Kd.C k23 _ Ao101 x14_5.length x14_5 := (Kd.R_reads' HO_14.out).2.2; have hcut103 := cut_to (P := Try.prog) 25 23 .i64 Try.underlying25 hi0103 Ao101 x14_5.length co101 3 (by omega) q103 hroom103; have hr103 := Kd.C_take (m := 3) hC103 (by omega); have hy103 : y240.length = (3 : Int).toNat := (by rw [Ny240.out, List.length_take]; omega); rw [← Ny240.out] at hr103; rw [← hy103] at hcut103; have HR243 := Aside0.mk hr103; have HC243 := Aside0.mk (show y240.length ≤ co101 from by omega); clear hr103 hC103 hroom103 hi0103 hsz103; have KY103 := Aside0.mk hy103; clear hy103; have KL103 := Aside0.mk (show 3 ≤ x14_5.length from by omega); replace q103 := eq_true q103) | (go_at_call 10; (with_reducible refine (rel_Meets.calls k5 _ _ x14_5 _ _ y240 false _ ?side1 ?side2 ?side3 ?side4 A93.out).mono ?_); (case side1 => repeat (first | exact (Kd.R_reads' HO_14.out).2.2 | (with_reducible refine Kd.C_alloc ?_ _) | (with_reducible refine Kd.C_drewN ?_ _) | (with_reducible refine Kd.C_drew ?_))); (case side2 => exact (Kd.R_reads' HO_14.out).2.1); (case side3 => repeat (first | exact (by repeat (first | (with_reducible exact HR243.out) | (with_reducible refine Kd.C_alloc ?_ _) | (with_reducible refine Kd.C_drewN ?_ _) | (with_reducible refine Kd.C_drew ?_) | exact HR243.out)) | (with_reducible refine Kd.C_alloc ?_ _) | (with_reducible refine Kd.C_drewN ?_ _) | (with_reducible refine Kd.C_drew ?_))); (case side4 => exact HC243.out); rintro e w104 ⟨rfl, hb⟩; have n0_ := Aside0.mk (Kd.Q_below (by (with_reducible repeat (first | apply Kd.Q_alloc | apply Kd.Q_drewN | apply Kd.Q_drew)); exact HO_9.out) hb); have n1_ := Aside0.mk (Kd.R_below (by (with_reducible repeat (first | apply Kd.R_alloc | apply Kd.R_drewN | apply Kd.R_drew)); exact HO_14.out) hb); have n2_ := Aside0.mk (Kd.R_below (by (with_reducible repeat (first | apply Kd.R_alloc | apply Kd.R_drewN | apply Kd.R_drew)); exact HO_79.out) hb); have n3_ := Aside0.mk (blk_below (g := gb184) (o := .cells #[.slice A0_0 l0_0.length c0_0, .slice A0_1 l0_1.length c0_1] 29 (0, 0)) (by (with_reducible repeat (first | refine blk_drewN ?_ _ | refine blk_drew ?_ | refine blk_alloc ?_ _)); exact BK184.out) hb); have n4_ := Aside0.mk (blk_below (g := gb185) (o := .cells #[.slice A2_0 l2_0.length c2_0, .slice A2_1 l2_1.length c2_1] 30 (0, 0)) (by (with_reducible repeat (first | refine blk_drewN ?_ _ | refine blk_drew ?_ | refine blk_alloc ?_ _)); exact BK185.out) hb); have n5_ := Aside0.mk (blk_below (g := gb186) (o := .cells #[.slice A3_0 l3_0.length c3_0, .slice A3_1 l3_1.length c3_1] 29 (0, 0)) (by (with_reducible repeat (first | refine blk_drewN ?_ _ | refine blk_drew ?_ | refine blk_alloc ?_ _)); exact BK186.out) hb); have n6_ := Aside0.mk (Kd.C_below (by repeat (first | (with_reducible exact HR243.out) | (with_reducible refine Kd.C_alloc ?_ _) | (with_reducible refine Kd.C_drewN ?_ _) | (with_reducible refine Kd.C_drew ?_) | exact HR243.out)) hb); have n7_ := Aside0.mk (below_step (by repeat (first | (with_reducible first | exact HB.out | apply below_alloc | apply pw_below_drewN | apply below_drew1 | refine below_set ?_ GE184.out | refine below_set ?_ GE185.out | refine below_set ?_ GE186.out) | exact HB.out)) hb); clear HO_9; clear HO_14; clear HO_79; clear BK184; clear BK185; clear BK186; clear HR243; clear HB; have HO_9 := n0_; have HO_14 := n1_; have HO_79 := n2_; have BK184 := n3_; have BK185 := n4_; have BK186 := n5_; have HR243 := n6_; have HB := n7_; clear n0_ n1_ n2_ n3_ n4_ n5_ n6_ n7_; (try clear hb); (try clear hb2); (try clear hk); (try clear hi)))
                                          go_ret
                                          exact ⟨by first | rfl | (simp [errW_none, errW_some] <;> rfl) | (simp [*, errW_none, errW_some] <;> rfl), by repeat (first | (with_reducible first | exact HB.out | apply below_alloc | apply pw_below_drewN | apply below_drew1 | refine below_set ?_ GE184.out | refine below_set ?_ GE185.out | refine below_set ?_ GE186.out) | exact HB.out)⟩
                                      · rw [if_neg c92] at H
                                        exact absurd H (by simp)
                                    · rw [if_neg c91] at H
                                      have c91b0 : (t239 == ((x9_6.length : Int) == 0)) = false := by simpa using c91
                                      (try (have c91b1 : decide (t239 = ((x9_6.length : Int) == 0)) = false := by simpa using c91))
                                      (try (have c91b2 : (t239 == ((x9_6.length : Int) == 0)) = false := by simpa using c91))
                                      (try (have c91b3 : ¬ (t239 = ((x9_6.length : Int) == 0)) := by simpa using c91))
                                      clear c91
                                      obtain rfl := Option.some.inj H
                                      obtain ⟨Ao105, co105, eo105⟩ := Kd.R_slice HO_14.out
                                      subst eo105
                                      go_wp2_with (first | ((with_reducible refine gate_callee (f := 10) rfl ?_); refine goesL_ (some 93) rfl rfl Try.func10 (by kernel_rfl) rfl #[.slice Ao105 x14_5.length co105, .slice Ao26 x9_6.length co26] rfl (by (try simp only [List.map_toArray, List.map_cons, List.map_nil]); first | done | rfl | (simp only [List.length_drop, List.length_take]; rfl)) ?_; (with_reducible refine (rel_Meets.calls k5 _ _ x14_5 _ _ x9_6 t239 _ ?side1 ?side2 ?side3 ?side4 A90.out).mono ?_); (case side1 => repeat (first | exact (Kd.R_reads' HO_14.out).2.2 | (with_reducible refine Kd.C_alloc ?_ _) | (with_reducible refine Kd.C_drewN ?_ _) | (with_reducible refine Kd.C_drew ?_))); (case side2 => exact (Kd.R_reads' HO_14.out).2.1); (case side3 => repeat (first | exact (Kd.Q_reads' HO_9.out).2.2 | (with_reducible refine Kd.C_alloc ?_ _) | (with_reducible refine Kd.C_drewN ?_ _) | (with_reducible refine Kd.C_drew ?_))); (case side4 => exact (Kd.Q_reads' HO_9.out).2.1); rintro e w106 ⟨rfl, hb⟩; refine ⟨_, rfl, ?_⟩; have n0_ := Aside0.mk (Kd.Q_below (by (with_reducible repeat (first | apply Kd.Q_alloc | apply Kd.Q_drewN | apply Kd.Q_drew)); exact HO_9.out) hb); have n1_ := Aside0.mk (Kd.R_below (by (with_reducible repeat (first | apply Kd.R_alloc | apply Kd.R_drewN | apply Kd.R_drew)); exact HO_14.out) hb); have n2_ := Aside0.mk (Kd.R_below (by (with_reducible repeat (first | apply Kd.R_alloc | apply Kd.R_drewN | apply Kd.R_drew)); exact HO_79.out) hb); have n3_ := Aside0.mk (blk_below (g := gb184) (o := .cells #[.slice A0_0 l0_0.length c0_0, .slice A0_1 l0_1.length c0_1] 29 (0, 0)) (by (with_reducible repeat (first | refine blk_drewN ?_ _ | refine blk_drew ?_ | refine blk_alloc ?_ _)); exact BK184.out) hb); have n4_ := Aside0.mk (blk_below (g := gb185) (o := .cells #[.slice A2_0 l2_0.length c2_0, .slice A2_1 l2_1.length c2_1] 30 (0, 0)) (by (with_reducible repeat (first | refine blk_drewN ?_ _ | refine blk_drew ?_ | refine blk_alloc ?_ _)); exact BK185.out) hb); have n5_ := Aside0.mk (blk_below (g := gb186) (o := .cells #[.slice A3_0 l3_0.length c3_0, .slice A3_1 l3_1.length c3_1] 29 (0, 0)) (by (with_reducible repeat (first | refine blk_drewN ?_ _ | refine blk_drew ?_ | refine blk_alloc ?_ _)); exact BK186.out) hb); have n6_ := Aside0.mk (below_step (by repeat (first | (with_reducible first | exact HB.out | apply below_alloc | apply pw_below_drewN | apply below_drew1 | refine below_set ?_ GE184.out | refine below_set ?_ GE185.out | refine below_set ?_ GE186.out) | exact HB.out)) hb); clear HO_9; clear HO_14; clear HO_79; clear BK184; clear BK185; clear BK186; clear HB; have HO_9 := n0_; have HO_14 := n1_; have HO_79 := n2_; have BK184 := n3_; have BK185 := n4_; have BK186 := n5_; have HB := n6_; clear n0_ n1_ n2_ n3_ n4_ n5_ n6_; (try clear hb); (try clear hb2); (try clear hk); (try clear hi)))
                                      go_ret
                                      exact ⟨by first | rfl | (simp [errW_none, errW_some] <;> rfl) | (simp [*, errW_none, errW_some] <;> rfl), by repeat (first | (with_reducible first | exact HB.out | apply below_alloc | apply pw_below_drewN | apply below_drew1 | refine below_set ?_ GE184.out | refine below_set ?_ GE185.out | refine below_set ?_ GE186.out) | exact HB.out)⟩
                · rw [if_neg c38] at H
                  exact absurd H (by simp)
              · rw [if_neg c37] at H
                exact absurd H (by simp)
        · rw [if_neg c20] at H
          exact absurd H (by simp)
      · rw [if_neg c18] at H
        exact absurd H (by simp)

end Go.Proofs.Ytfabnapjbgamaaa.MRelTrue
