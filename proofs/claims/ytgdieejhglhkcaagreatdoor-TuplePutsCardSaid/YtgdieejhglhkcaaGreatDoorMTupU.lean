import Derived.Test.YtgdieejhglhkcaaGreatDoorMTupx8
import Derived.Test.YtgdieejhglhkcaaGreatDoorTuJ2
import Derived.Test.YtgdieejhglhkcaaGreatDoorMTupx7
import Derived.Test.YtgdieejhglhkcaaGreatDoorMTupx4
namespace Go.Proofs.YtgdieejhglhkcaaGreatDoor.MTup
open Go.RowKit Go.Proofs.YtgdieejhglhkcaaGreatDoorW.PrintWords Go.Proofs.YtgdieejhglhkcaaGreatDoorW.PrintLast Go.Proofs.YtgdieejhglhkcaaGreatDoorW.PrintMore
attribute [local go_sem] max2_int min2_int max_two min_two max_three min_three max_four min_four   -- for this text's walks alone
set_option linter.unusedVariables false
set_option linter.unusedSimpArgs false
/-! ### broadsidelaw3_TuplePuts: function 6 -/
mutual
def broadsidelaw3_TuplePuts.j1 : Nat → Int → List (S25) → List (S25) → List (S25) → Option (Bool)
  | 0, _, _, _, _ => none
  | k + 1, x3, x9, x10, x11 => broadsidelaw3_TuplePuts.l1 k x3 x9 x10 ([] : List (S25)) x11 (x11.length : Int) 0
def broadsidelaw3_TuplePuts.l1 : Nat → Int → List (S25) → List (S25) → List (S25) → List (S25) → Int → Int → Option (Bool)
  | 0, _, _, _, _, _, _, _ => none
  | k + 1, x3, x9, x10, x14, x64, x65, x66 => if x66 < x65 then (if 0 ≤ x66 then (if x66 < (x64.length : Int) then ((tuple_Put.f x14 ((rd_T25 x64 x66).f0) ((rd_T25 x64 x66).f1.f0) ((rd_T25 x64 x66).f1.f1) ((rd_T25 x64 x66).f1.f2)).bind fun t254 => (broadsidelaw3_TuplePuts.l1 k x3 x9 x10 t254 x64 x65 (wrap64 (x66 + 1)))) else (none)) else (none)) else ((api_Attr_20.f k x14 x9).bind fun t257 => (if t257 = true then ((tuple_Same.f k x9 x10).bind fun t258 => ((api_Attr_20.f k x9 x10).bind fun t259 => (if (t258 != t259) = true then (broadsidelaw3_TuplePuts.j3 k x3 x9 true) else ((tuple_Say.f k x9).bind fun t260 => ((tuple_Say.f k x10).bind fun t261 => ((api_Attr_20.f k x9 x10).bind fun t262 => (broadsidelaw3_TuplePuts.j3 k x3 x9 ((t260.toList == t261.toList) != t262)))))))) else (broadsidelaw3_TuplePuts.j3 k x3 x9 true)))
def broadsidelaw3_TuplePuts.j3 : Nat → Int → List (S25) → Bool → Option (Bool)
  | 0, _, _, _ => none
  | k + 1, x3, x9, x100 => if x100 = true then (some false) else ((broadsidekeep_Names.f).bind fun t263 => (broadsidelaw3_TuplePuts.l2 k x3 x9 t263 (t263.length : Int) 0))
def broadsidelaw3_TuplePuts.l2 : Nat → Int → List (S25) → List ByteArray → Int → Int → Option (Bool)
  | 0, _, _, _, _, _ => none
  | k + 1, x3, x9, x101, x102, x103 => if x103 < x102 then (if 0 ≤ x103 then (if x103 < (x101.length : Int) then ((broadsidekeep_Value.f x3).bind fun bt269 => ((tuple_Put.f x9 (rdOf ByteArray.empty x101 x103) bt269.1 bt269.2.1 bt269.2.2).bind fun t272 => ((tuple_Get.f k t272 (rdOf ByteArray.empty x101 x103)).bind fun bt275 => (if bt275.2.2.2 = true then ((broadsidekeep_Value.f x3).bind fun bt280 => (if (!(bt275.1 == bt280.1) || (!(bt275.2.1 == bt280.2.1) || (!(bt275.2.2.1.toList == bt280.2.2.toList)))) = true then (some false) else (if (t272.length : Int) ≤ 5 then ((tuple_Right.f k t272).bind fun t283 => (if t283 = true then (broadsidelaw3_TuplePuts.l2 k x3 x9 x101 x102 (wrap64 (x103 + 1))) else (some false))) else (broadsidelaw3_TuplePuts.l2 k x3 x9 x101 x102 (wrap64 (x103 + 1)))))) else (some false))))) else (none)) else (none)) else ((tuple_Right.f k x9).bind fun t266 => (if t266 = true then ((broadsidelaw3_TupleRuns.f k).bind fun t267 => (some t267)) else (some false)))
def broadsidelaw3_TuplePuts.l0 : Nat → List Int → Int → List (S25) → List (S25) → List (S25) → Int → Option (Bool)
  | 0, _, _, _, _, _, _ => none
  | k + 1, x2, x3, x9, x10, x11, x12 => if x12 < (x2.length : Int) then (if (x11.length : Int) > 1 then (if 0 ≤ x12 then ((broadsidebook_Within.f (rd x2 x12) 0 (wrap64 ((x11.length : Int) - 1))).bind fun t230 => ((some (([] : List (S25)) : List (S25))).bind fun y231 => (if 0 ≤ t230 then (if t230 < (x11.length : Int) then (if y231.length < 2932031007402 then ((some (y231 ++ [(⟨(rd_T25 x11 t230).f0, (⟨(rd_T25 x11 t230).f1.f0, (rd_T25 x11 t230).f1.f1, (rd_T25 x11 t230).f1.f2⟩ : S23)⟩ : S25)] : List (S25))).bind fun y235 => (if t230 ≤ (x11.length : Int) then ((some (x11.take (t230 : Int).toNat : List (S25))).bind fun y238 => (if y235.length + y238.length < 2932031007402 then ((some (y235 ++ y238 : List (S25))).bind fun y242 => (if 0 ≤ (wrap64 (t230 + 1)) then (if (wrap64 (t230 + 1)) ≤ (x11.length : Int) then ((some (x11.drop ((wrap64 (t230 + 1)) : Int).toNat : List (S25))).bind fun y245 => (if y242.length + y245.length < 2932031007402 then (broadsidelaw3_TuplePuts.l0 k x2 x3 x9 x10 (y242 ++ y245) (wrap64 (x12 + 1))) else (none))) else (none)) else (none))) else (none))) else (none))) else (none)) else (none)) else (none)))) else (none)) else (broadsidelaw3_TuplePuts.j1 k x3 x9 x10 x11)) else (broadsidelaw3_TuplePuts.j1 k x3 x9 x10 x11)
end
def broadsidelaw3_TuplePuts.f (k : Nat) (l0_0 : List Int) (l0_1 : List Int) (l1_0 : List Int) (l1_1 : List Int) (l2 : List Int) (a3 : Int) : Option (Bool) := (broadsidekeep_Tuple_Tuple.f k l0_0 l0_1).bind fun t217 => ((broadsidekeep_Tuple_Tuple.f k l1_0 l1_1).bind fun t220 => ((some (([] : List (S25)) : List (S25))).bind fun y223 => (if y223.length + t217.length < 2932031007402 then (broadsidelaw3_TuplePuts.l0 k l2 a3 t217 t220 (y223 ++ t217) 0) else (none))))
theorem broadsidelaw3_TuplePuts.mono_l : ∀ k, (∀ y0 y1 y2 y3, LeO (broadsidelaw3_TuplePuts.j1 k y0 y1 y2 y3) (broadsidelaw3_TuplePuts.j1 (k + 1) y0 y1 y2 y3)) ∧ (∀ y0 y1 y2 y3 y4 y5 y6, LeO (broadsidelaw3_TuplePuts.l1 k y0 y1 y2 y3 y4 y5 y6) (broadsidelaw3_TuplePuts.l1 (k + 1) y0 y1 y2 y3 y4 y5 y6)) ∧ (∀ y0 y1 y2, LeO (broadsidelaw3_TuplePuts.j3 k y0 y1 y2) (broadsidelaw3_TuplePuts.j3 (k + 1) y0 y1 y2)) ∧ (∀ y0 y1 y2 y3 y4, LeO (broadsidelaw3_TuplePuts.l2 k y0 y1 y2 y3 y4) (broadsidelaw3_TuplePuts.l2 (k + 1) y0 y1 y2 y3 y4)) ∧ (∀ y0 y1 y2 y3 y4 y5, LeO (broadsidelaw3_TuplePuts.l0 k y0 y1 y2 y3 y4 y5) (broadsidelaw3_TuplePuts.l0 (k + 1) y0 y1 y2 y3 y4 y5))
  | 0 => ⟨fun _ _ _ _ r h => by simp [broadsidelaw3_TuplePuts.j1] at h, fun _ _ _ _ _ _ _ r h => by simp [broadsidelaw3_TuplePuts.l1] at h, fun _ _ _ r h => by simp [broadsidelaw3_TuplePuts.j3] at h, fun _ _ _ _ _ r h => by simp [broadsidelaw3_TuplePuts.l2] at h, fun _ _ _ _ _ _ r h => by simp [broadsidelaw3_TuplePuts.l0] at h⟩
  | k + 1 => by
    obtain ⟨ih0, ih1, ih2, ih3, ih4⟩ := broadsidelaw3_TuplePuts.mono_l k
    refine ⟨?_, ?_, ?_, ?_, ?_⟩
    · intro y0 y1 y2 y3
      unfold broadsidelaw3_TuplePuts.j1
      repeat' first
      | (with_reducible exact ih0 _ _ _ _)
      | (with_reducible exact ih1 _ _ _ _ _ _ _)
      | (with_reducible exact ih2 _ _ _)
      | (with_reducible exact ih3 _ _ _ _ _)
      | (with_reducible exact ih4 _ _ _ _ _ _)
      | (with_reducible exact api_Attr_20.mono _ _ _)
      | (with_reducible exact broadsidekeep_Tuple_Tuple.mono _ _ _)
      | (with_reducible exact broadsidelaw3_TupleRuns.mono _)
      | (with_reducible exact tuple_Get.mono _ _ _)
      | (with_reducible exact tuple_Right.mono _ _)
      | (with_reducible exact tuple_Same.mono _ _ _)
      | (with_reducible exact tuple_Say.mono _ _)
      | (with_reducible exact LeO.refl _)
      | (with_reducible exact LeO.none _)
      | (with_reducible refine LeO.ite ?_ ?_)
      | (with_reducible refine LeO.bind ?_ (fun _ => ?_))
      | exact ih0 _ _ _ _
      | exact ih1 _ _ _ _ _ _ _
      | exact ih2 _ _ _
      | exact ih3 _ _ _ _ _
      | exact ih4 _ _ _ _ _ _
      | exact api_Attr_20.mono _ _ _
      | exact broadsidekeep_Tuple_Tuple.mono _ _ _
      | exact broadsidelaw3_TupleRuns.mono _
      | exact tuple_Get.mono _ _ _
      | exact tuple_Right.mono _ _
      | exact tuple_Same.mono _ _ _
      | exact tuple_Say.mono _ _
      | exact LeO.none _
      | refine LeO.ite ?_ ?_
      | refine LeO.bind ?_ (fun _ => ?_)
    · intro y0 y1 y2 y3 y4 y5 y6
      unfold broadsidelaw3_TuplePuts.l1
      repeat' first
      | (with_reducible exact ih0 _ _ _ _)
      | (with_reducible exact ih1 _ _ _ _ _ _ _)
      | (with_reducible exact ih2 _ _ _)
      | (with_reducible exact ih3 _ _ _ _ _)
      | (with_reducible exact ih4 _ _ _ _ _ _)
      | (with_reducible exact api_Attr_20.mono _ _ _)
      | (with_reducible exact broadsidekeep_Tuple_Tuple.mono _ _ _)
      | (with_reducible exact broadsidelaw3_TupleRuns.mono _)
      | (with_reducible exact tuple_Get.mono _ _ _)
      | (with_reducible exact tuple_Right.mono _ _)
      | (with_reducible exact tuple_Same.mono _ _ _)
      | (with_reducible exact tuple_Say.mono _ _)
      | (with_reducible exact LeO.refl _)
      | (with_reducible exact LeO.none _)
      | (with_reducible refine LeO.ite ?_ ?_)
      | (with_reducible refine LeO.bind ?_ (fun _ => ?_))
      | exact ih0 _ _ _ _
      | exact ih1 _ _ _ _ _ _ _
      | exact ih2 _ _ _
      | exact ih3 _ _ _ _ _
      | exact ih4 _ _ _ _ _ _
      | exact api_Attr_20.mono _ _ _
      | exact broadsidekeep_Tuple_Tuple.mono _ _ _
      | exact broadsidelaw3_TupleRuns.mono _
      | exact tuple_Get.mono _ _ _
      | exact tuple_Right.mono _ _
      | exact tuple_Same.mono _ _ _
      | exact tuple_Say.mono _ _
      | exact LeO.none _
      | refine LeO.ite ?_ ?_
      | refine LeO.bind ?_ (fun _ => ?_)
    · intro y0 y1 y2
      unfold broadsidelaw3_TuplePuts.j3
      repeat' first
      | (with_reducible exact ih0 _ _ _ _)
      | (with_reducible exact ih1 _ _ _ _ _ _ _)
      | (with_reducible exact ih2 _ _ _)
      | (with_reducible exact ih3 _ _ _ _ _)
      | (with_reducible exact ih4 _ _ _ _ _ _)
      | (with_reducible exact api_Attr_20.mono _ _ _)
      | (with_reducible exact broadsidekeep_Tuple_Tuple.mono _ _ _)
      | (with_reducible exact broadsidelaw3_TupleRuns.mono _)
      | (with_reducible exact tuple_Get.mono _ _ _)
      | (with_reducible exact tuple_Right.mono _ _)
      | (with_reducible exact tuple_Same.mono _ _ _)
      | (with_reducible exact tuple_Say.mono _ _)
      | (with_reducible exact LeO.refl _)
      | (with_reducible exact LeO.none _)
      | (with_reducible refine LeO.ite ?_ ?_)
      | (with_reducible refine LeO.bind ?_ (fun _ => ?_))
      | exact ih0 _ _ _ _
      | exact ih1 _ _ _ _ _ _ _
      | exact ih2 _ _ _
      | exact ih3 _ _ _ _ _
      | exact ih4 _ _ _ _ _ _
      | exact api_Attr_20.mono _ _ _
      | exact broadsidekeep_Tuple_Tuple.mono _ _ _
      | exact broadsidelaw3_TupleRuns.mono _
      | exact tuple_Get.mono _ _ _
      | exact tuple_Right.mono _ _
      | exact tuple_Same.mono _ _ _
      | exact tuple_Say.mono _ _
      | exact LeO.none _
      | refine LeO.ite ?_ ?_
      | refine LeO.bind ?_ (fun _ => ?_)
    · intro y0 y1 y2 y3 y4
      unfold broadsidelaw3_TuplePuts.l2
      repeat' first
      | (with_reducible exact ih0 _ _ _ _)
      | (with_reducible exact ih1 _ _ _ _ _ _ _)
      | (with_reducible exact ih2 _ _ _)
      | (with_reducible exact ih3 _ _ _ _ _)
      | (with_reducible exact ih4 _ _ _ _ _ _)
      | (with_reducible exact api_Attr_20.mono _ _ _)
      | (with_reducible exact broadsidekeep_Tuple_Tuple.mono _ _ _)
      | (with_reducible exact broadsidelaw3_TupleRuns.mono _)
      | (with_reducible exact tuple_Get.mono _ _ _)
      | (with_reducible exact tuple_Right.mono _ _)
      | (with_reducible exact tuple_Same.mono _ _ _)
      | (with_reducible exact tuple_Say.mono _ _)
      | (with_reducible exact LeO.refl _)
      | (with_reducible exact LeO.none _)
      | (with_reducible refine LeO.ite ?_ ?_)
      | (with_reducible refine LeO.bind ?_ (fun _ => ?_))
      | exact ih0 _ _ _ _
      | exact ih1 _ _ _ _ _ _ _
      | exact ih2 _ _ _
      | exact ih3 _ _ _ _ _
      | exact ih4 _ _ _ _ _ _
      | exact api_Attr_20.mono _ _ _
      | exact broadsidekeep_Tuple_Tuple.mono _ _ _
      | exact broadsidelaw3_TupleRuns.mono _
      | exact tuple_Get.mono _ _ _
      | exact tuple_Right.mono _ _
      | exact tuple_Same.mono _ _ _
      | exact tuple_Say.mono _ _
      | exact LeO.none _
      | refine LeO.ite ?_ ?_
      | refine LeO.bind ?_ (fun _ => ?_)
    · intro y0 y1 y2 y3 y4 y5
      unfold broadsidelaw3_TuplePuts.l0
      repeat' first
      | (with_reducible exact ih0 _ _ _ _)
      | (with_reducible exact ih1 _ _ _ _ _ _ _)
      | (with_reducible exact ih2 _ _ _)
      | (with_reducible exact ih3 _ _ _ _ _)
      | (with_reducible exact ih4 _ _ _ _ _ _)
      | (with_reducible exact api_Attr_20.mono _ _ _)
      | (with_reducible exact broadsidekeep_Tuple_Tuple.mono _ _ _)
      | (with_reducible exact broadsidelaw3_TupleRuns.mono _)
      | (with_reducible exact tuple_Get.mono _ _ _)
      | (with_reducible exact tuple_Right.mono _ _)
      | (with_reducible exact tuple_Same.mono _ _ _)
      | (with_reducible exact tuple_Say.mono _ _)
      | (with_reducible exact LeO.refl _)
      | (with_reducible exact LeO.none _)
      | (with_reducible refine LeO.ite ?_ ?_)
      | (with_reducible refine LeO.bind ?_ (fun _ => ?_))
      | exact ih0 _ _ _ _
      | exact ih1 _ _ _ _ _ _ _
      | exact ih2 _ _ _
      | exact ih3 _ _ _ _ _
      | exact ih4 _ _ _ _ _ _
      | exact api_Attr_20.mono _ _ _
      | exact broadsidekeep_Tuple_Tuple.mono _ _ _
      | exact broadsidelaw3_TupleRuns.mono _
      | exact tuple_Get.mono _ _ _
      | exact tuple_Right.mono _ _
      | exact tuple_Same.mono _ _ _
      | exact tuple_Say.mono _ _
      | exact LeO.none _
      | refine LeO.ite ?_ ?_
      | refine LeO.bind ?_ (fun _ => ?_)
theorem broadsidelaw3_TuplePuts.mono : ∀ a0 a1 a2 a3 a4 a5 k, LeO (broadsidelaw3_TuplePuts.f k a0 a1 a2 a3 a4 a5) (broadsidelaw3_TuplePuts.f (k + 1) a0 a1 a2 a3 a4 a5) := by
  intro a0 a1 a2 a3 a4 a5 k
  obtain ⟨ih0, ih1, ih2, ih3, ih4⟩ := broadsidelaw3_TuplePuts.mono_l k
  unfold broadsidelaw3_TuplePuts.f
  repeat' first
      | (with_reducible exact ih0 _ _ _ _)
      | (with_reducible exact ih1 _ _ _ _ _ _ _)
      | (with_reducible exact ih2 _ _ _)
      | (with_reducible exact ih3 _ _ _ _ _)
      | (with_reducible exact ih4 _ _ _ _ _ _)
      | (with_reducible exact api_Attr_20.mono _ _ _)
      | (with_reducible exact broadsidekeep_Tuple_Tuple.mono _ _ _)
      | (with_reducible exact broadsidelaw3_TupleRuns.mono _)
      | (with_reducible exact tuple_Get.mono _ _ _)
      | (with_reducible exact tuple_Right.mono _ _)
      | (with_reducible exact tuple_Same.mono _ _ _)
      | (with_reducible exact tuple_Say.mono _ _)
      | (with_reducible exact LeO.refl _)
      | (with_reducible exact LeO.none _)
      | (with_reducible refine LeO.ite ?_ ?_)
      | (with_reducible refine LeO.bind ?_ (fun _ => ?_))
      | exact ih0 _ _ _ _
      | exact ih1 _ _ _ _ _ _ _
      | exact ih2 _ _ _
      | exact ih3 _ _ _ _ _
      | exact ih4 _ _ _ _ _ _
      | exact api_Attr_20.mono _ _ _
      | exact broadsidekeep_Tuple_Tuple.mono _ _ _
      | exact broadsidelaw3_TupleRuns.mono _
      | exact tuple_Get.mono _ _ _
      | exact tuple_Right.mono _ _
      | exact tuple_Same.mono _ _ _
      | exact tuple_Say.mono _ _
      | exact LeO.none _
      | refine LeO.ite ?_ ?_
      | refine LeO.bind ?_ (fun _ => ?_)
def broadsidelaw3_TuplePuts.T21 : Bool × List (List Nat × List Nat) := (true, [([], []), ([0], [0]), ([1], [1]), ([2], [2]), ([2], [2]), ([4, 2, 2], [2, 4]), ([3, 5, 2], [2, 3, 5]), ([2, 6], [2, 6]), ([7, 5], [7]), ([8], [8]), ([9, 8], [8, 9]), ([10, 8], [8, 10]), ([11, 8, 8], [8, 11]), ([12], [12]), ([13, 12, 12], [12, 13]), ([14, 12], [12, 14]), ([12, 15, 8], [8, 12, 15]), ([8, 16], [8, 16])])
def broadsidelaw3_TuplePuts.B21 : List Nat := [0, 1, 3, 7, 7, 23, 63, 127, 255, 511, 1023, 2047, 4095, 8191, 16383, 32767, 65535, 131071]
theorem broadsidelaw3_TuplePuts.tab21 : rtab .any (opsOf Tryz.f6 21) = broadsidelaw3_TuplePuts.T21 := by kernel_rfl
theorem broadsidelaw3_TuplePuts.bits21 : waitsOk broadsidelaw3_TuplePuts.T21.2 broadsidelaw3_TuplePuts.B21 = true := by kernel_rfl
set_option maxHeartbeats 8000000 in
set_option maxRecDepth 100000 in
theorem broadsidelaw3_TuplePuts.calls (k : Nat) (A0_0 : Option Addr) (c0_0 : Nat) (l0_0 : List Int) (A0_1 : Option Addr) (c0_1 : Nat) (l0_1 : List Int) (A1_0 : Option Addr) (c1_0 : Nat) (l1_0 : List Int) (A1_1 : Option Addr) (c1_1 : Nat) (l1_1 : List Int) (A2 : Option Addr) (c2 : Nat) (l2 : List Int) (a3 : Int) (r : Bool) (w : World) (HTAB : Aside0 (Val.Tab w)) (HRT : Aside0 (r = true)) (hr0_0 : Kd.C (Kd.int .i64) w A0_0 l0_0.length l0_0) (hc0_0 : l0_0.length ≤ c0_0) (hr0_1 : Kd.C (Kd.int .i64) w A0_1 l0_1.length l0_1) (hc0_1 : l0_1.length ≤ c0_1) (hr1_0 : Kd.C (Kd.int .i64) w A1_0 l1_0.length l1_0) (hc1_0 : l1_0.length ≤ c1_0) (hr1_1 : Kd.C (Kd.int .i64) w A1_1 l1_1.length l1_1) (hc1_1 : l1_1.length ≤ c1_1) (hr2 : Kd.C (Kd.int .i64) w A2 l2.length l2) (hc2 : l2.length ≤ c2) (h : broadsidelaw3_TuplePuts.f k l0_0 l0_1 l1_0 l1_1 l2 a3 = some r) :
    Calls Tryz.prog 6 #[.agg #[.slice A0_0 l0_0.length c0_0, .slice A0_1 l0_1.length c0_1], .agg #[.slice A1_0 l1_0.length c1_0, .slice A1_1 l1_1.length c1_1], .slice A2 l2.length c2, .int .i64 a3] w fun e w' => e = .returned (.bool r) ∧ Below w.heap.size w w' := by
  have hu35 := Tryz.underlying35
  have hu25 := Tryz.underlying25
  have hu23 := Tryz.underlying23
  have HR0_0 := Aside0.mk hr0_0
  have HC0_0 := Aside0.mk hc0_0
  clear hr0_0 hc0_0
  have HR0_1 := Aside0.mk hr0_1
  have HC0_1 := Aside0.mk hc0_1
  clear hr0_1 hc0_1
  have HR1_0 := Aside0.mk hr1_0
  have HC1_0 := Aside0.mk hc1_0
  clear hr1_0 hc1_0
  have HR1_1 := Aside0.mk hr1_1
  have HC1_1 := Aside0.mk hc1_1
  clear hr1_1 hc1_1
  have HR2 := Aside0.mk hr2
  have HC2 := Aside0.mk hc2
  clear hr2 hc2
  have HB := Aside0.mk (Below.refl w.heap.size w)
  have H : ((broadsidekeep_Tuple_Tuple.f k l0_0 l0_1).bind fun t217 => ((broadsidekeep_Tuple_Tuple.f k l1_0 l1_1).bind fun t220 => ((some (([] : List (S25)) : List (S25))).bind fun y223 => (if y223.length + t217.length < 2932031007402 then (broadsidelaw3_TuplePuts.l0 k l2 a3 t217 t220 (y223 ++ t217) 0) else (none))))) = some r := h
  clear h
  replace H := Option.bind_eq_some_iff.mp H
  obtain ⟨t217, A50, H⟩ := H
  replace H : ((broadsidekeep_Tuple_Tuple.f k l1_0 l1_1).bind fun t220 => ((some (([] : List (S25)) : List (S25))).bind fun y223 => (if y223.length + t217.length < 2932031007402 then (broadsidelaw3_TuplePuts.l0 k l2 a3 t217 t220 (y223 ++ t217) 0) else (none)))) = some r := H
  have A5 := Aside0.mk A50
  clear A50
  replace H := Option.bind_eq_some_iff.mp H
  obtain ⟨t220, A60, H⟩ := H
  replace H : ((some (([] : List (S25)) : List (S25))).bind fun y223 => (if y223.length + t217.length < 2932031007402 then (broadsidelaw3_TuplePuts.l0 k l2 a3 t217 t220 (y223 ++ t217) 0) else (none))) = some r := H
  have A6 := Aside0.mk A60
  clear A60
  obtain ⟨y223, hy223⟩ : ∃ y_ : List (S25), y_ = (([] : List (S25))) := ⟨_, rfl⟩
  replace H : (if y223.length + t217.length < 2932031007402 then (broadsidelaw3_TuplePuts.l0 k l2 a3 t217 t220 (y223 ++ t217) 0) else (none)) = some r := by first | (rw [hy223]; with_reducible exact H) | (have H2_ := (Option.bind_some _ _).symm.trans H; rw [hy223]; with_reducible exact H2_) | (have H2_ := (Option.bind_some _ _).symm.trans H; with_reducible exact H2_) | with_reducible exact H | (rw [hy223]; exact H) | exact H
  have Ny223 := Aside0.mk hy223
  clear hy223
  by_cases c7 : y223.length + t217.length < 2932031007402
  · rw [if_pos c7] at H
    have LMc7 := Aside0.mk c7
    clear c7
    obtain ⟨y226, hy226⟩ : ∃ y_ : List (S25), y_ = (y223 ++ t217) := ⟨_, rfl⟩
    replace H : (broadsidelaw3_TuplePuts.l0 k l2 a3 t217 t220 y226 0) = some r := by first | (rw [hy226]; with_reducible exact H) | (have H2_ := (Option.bind_some _ _).symm.trans H; rw [hy226]; with_reducible exact H2_) | (have H2_ := (Option.bind_some _ _).symm.trans H; with_reducible exact H2_) | with_reducible exact H | (rw [hy226]; exact H) | exact H
    have Ny226 := Aside0.mk hy226
    clear hy226
    have HC8 := Aside0.mk H
    clear H
    go_enter Tryz.func6, Tryz.ntmps6
    try go_wp2_with (first | ((with_reducible refine gate_dst (N := 4) rfl ?_); (try (refine gate_guard (by rfl) ?_; dsimp only)); refine box_event ?hg (N := 4) ?hd (cs := #[.slice A0_0 l0_0.length c0_0, .slice A0_1 l0_1.length c0_1]) (t := 35) ?hr ?_; (case hd => rfl); (case hg => rfl); (case hr => first | (go_simp; done) | (go_simp; rfl)); intro gb215 hg w9 hbox hb; have n0_ := Aside0.mk (below_step (by repeat (first | (with_reducible first | exact HB.out | apply below_alloc | apply pw_below_drewN | apply below_drew1) | exact HB.out)) hb); have n1_ := Aside0.mk (hbox); have n2_ := Aside0.mk ((by rw [hg]; exact (below_size (by repeat (first | (with_reducible first | exact HB.out | apply below_alloc | apply pw_below_drewN | apply below_drew1) | exact HB.out))) : w.heap.size ≤ gb215)); have n3_ := Aside0.mk ((by rw [hg]; exact (below_size (by repeat (first | (with_reducible first | exact HB.out | apply below_alloc | apply pw_below_drewN | apply below_drew1) | exact HB.out))) : w.heap.size ≤ gb215)); clear HB; have HB := n0_; have BK215 := n1_; have GW215 := n2_; have GE215 := n3_; clear n0_ n1_ n2_ n3_; clear hb hbox hg) | ((with_reducible refine gate_dst (N := 5) rfl ?_); (try (refine gate_guard (by rfl) ?_; dsimp only)); refine box_event ?hg (N := 5) ?hd (cs := #[.slice A1_0 l1_0.length c1_0, .slice A1_1 l1_1.length c1_1]) (t := 35) ?hr ?_; (case hd => rfl); (case hg => rfl); (case hr => first | (go_simp; done) | (go_simp; rfl)); intro gb216 hg w10 hbox hb; have n0_ := Aside0.mk (blk_below (g := gb215) (o := .cells #[.slice A0_0 l0_0.length c0_0, .slice A0_1 l0_1.length c0_1] 35 (0, 0)) (by (with_reducible repeat (first | refine blk_drewN ?_ _ | refine blk_drew ?_ | refine blk_alloc ?_ _)); exact BK215.out) hb); have n1_ := Aside0.mk (below_step (by repeat (first | (with_reducible first | exact HB.out | apply below_alloc | apply pw_below_drewN | apply below_drew1 | refine below_set ?_ GE215.out) | exact HB.out)) hb); have n2_ := Aside0.mk (hbox); have n3_ := Aside0.mk ((by rw [hg]; exact (below_size (by repeat (first | (with_reducible first | exact HB.out | apply below_alloc | apply pw_below_drewN | apply below_drew1 | refine below_set ?_ GE215.out) | exact HB.out))) : w.heap.size ≤ gb216)); have n4_ := Aside0.mk ((by rw [hg]; exact (below_size (by repeat (first | (with_reducible first | exact HB.out | apply below_alloc | apply pw_below_drewN | apply below_drew1 | refine below_set ?_ GE215.out) | exact HB.out))) : w.heap.size ≤ gb216)); have n5_ := Aside0.mk ((by rw [hg]; exact Nat.ne_of_lt (blk_lt (g := gb215) (o := .cells #[.slice A0_0 l0_0.length c0_0, .slice A0_1 l0_1.length c0_1] 35 (0, 0)) (by (with_reducible repeat (first | refine blk_drewN ?_ _ | refine blk_drew ?_ | refine blk_alloc ?_ _)); exact BK215.out)) : gb215 ≠ gb216)); have n6_ := Aside0.mk ((by rw [hg]; exact Nat.ne_of_gt (blk_lt (g := gb215) (o := .cells #[.slice A0_0 l0_0.length c0_0, .slice A0_1 l0_1.length c0_1] 35 (0, 0)) (by (with_reducible repeat (first | refine blk_drewN ?_ _ | refine blk_drew ?_ | refine blk_alloc ?_ _)); exact BK215.out)) : gb216 ≠ gb215)); clear BK215; clear HB; have BK215 := n0_; have HB := n1_; have BK216 := n2_; have GW216 := n3_; have GE216 := n4_; have NB215_216 := n5_; have NB216_215 := n6_; clear n0_ n1_ n2_ n3_ n4_ n5_ n6_; clear hb hbox hg))
    have n0_ := Aside0.mk (blk_drew BK215.out)
    have n1_ := Aside0.mk (blk_drew BK216.out)
    have n2_ := Aside0.mk (below_drew1 HB.out)
    clear BK215
    clear BK216
    clear HB
    have BK215 := n0_
    have BK216 := n1_
    have HB := n2_
    clear n0_ n1_ n2_
    refine start_ (n := 6) (S := fun w' => w'.cell? ⟨gb215, 0, none⟩ = some (.slice A0_0 l0_0.length c0_0) ∧ w'.cell? ⟨gb215, 1, none⟩ = some (.slice A0_1 l0_1.length c0_1) ∧ w'.cell? ⟨gb216, 0, none⟩ = some (.slice A1_0 l1_0.length c1_0) ∧ w'.cell? ⟨gb216, 1, none⟩ = some (.slice A1_1 l1_1.length c1_1)) (ds := []) #[false, false, false, false, false, false] (by kernel_rfl) rfl rfl ⟨(blk_cell BK215.out 0).trans rfl, (blk_cell BK215.out 1).trans rfl, (blk_cell BK216.out 0).trans rfl, (blk_cell BK216.out 1).trans rfl⟩ (fun hHeld => ?_)
    generalize w10.drew = w11 at BK215 BK216 HB hHeld ⊢
    refine take_ (i := 0) (N := some 22) (v := ?_) (a' := ?_) #[true, false, false, false, false, false] rfl rfl (by kernel_rfl) (fun _ _ _ h => h) (Or.inl ⟨by rfl, ?_⟩) hHeld ?_ ?_
    rotate_left
    · rintro w' ⟨s0, s1, s2, s3⟩
      go_simp
      with_reducible rfl
    rotate_left
    · simp only [Act.put, List.setIfInBounds_toArray, List.set_cons_zero, List.set_cons_succ, i64_w, i32_w]
      rfl
    refine take_ (i := 2) (N := some 24) (v := ?_) (a' := ?_) #[true, false, true, false, false, false] rfl rfl (by kernel_rfl) (fun _ _ _ h => h) (Or.inl ⟨by rfl, ?_⟩) hHeld ?_ ?_
    rotate_left
    · rintro w' ⟨s0, s1, s2, s3⟩
      go_simp
      with_reducible rfl
    rotate_left
    · simp only [Act.put, List.setIfInBounds_toArray, List.set_cons_zero, List.set_cons_succ, i64_w, i32_w]
      rfl
    refine one_ (i := 1) (N := some 23) #[true, true, true, false, false, false] rfl rfl (by kernel_rfl) (by decide) (fun K hK => ?_)
    refine goes_ Tryz.func13 (by kernel_rfl) rfl #[.agg #[.slice A0_0 l0_0.length c0_0, .slice A0_1 l0_1.length c0_1]] (by rfl) rfl rfl (by (try simp only [List.map_toArray, List.map_cons, List.map_nil]); first | done | rfl | (simp only [List.length_drop, List.length_take]; rfl)) ?_
    with_reducible refine (broadsidekeep_Tuple_Tuple.calls k _ _ l0_0 _ _ l0_1 t217 _ ?side1 ?side2 ?side3 ?side4 A5.out).mono ?_
    (case side1 => repeat (first | exact (Kd.C_below HR0_0.out HB.out) | (with_reducible refine Kd.C_alloc ?_ _) | (with_reducible refine Kd.C_drewN ?_ _) | (with_reducible refine Kd.C_drew ?_)))
    (case side2 => exact HC0_0.out)
    (case side3 => repeat (first | exact (Kd.C_below HR0_1.out HB.out) | (with_reducible refine Kd.C_alloc ?_ _) | (with_reducible refine Kd.C_drewN ?_ _) | (with_reducible refine Kd.C_drew ?_)))
    (case side4 => exact HC0_1.out)
    rintro e w12 ⟨v218, rfl, ho0, hb⟩
    refine ⟨_, rfl, ?_⟩
    have n0_ := Aside0.mk (Kd.R_lower ho0 (below_size (by repeat (first | (with_reducible first | exact HB.out | apply below_alloc | apply pw_below_drewN | apply below_drew1 | refine below_set ?_ GE215.out | refine below_set ?_ GE216.out) | exact HB.out))))
    have n1_ := Aside0.mk (blk_below (g := gb215) (o := .cells #[.slice A0_0 l0_0.length c0_0, .slice A0_1 l0_1.length c0_1] 35 (0, 0)) (by (with_reducible repeat (first | refine blk_drewN ?_ _ | refine blk_drew ?_ | refine blk_alloc ?_ _)); exact BK215.out) hb)
    have n2_ := Aside0.mk (blk_below (g := gb216) (o := .cells #[.slice A1_0 l1_0.length c1_0, .slice A1_1 l1_1.length c1_1] 35 (0, 0)) (by (with_reducible repeat (first | refine blk_drewN ?_ _ | refine blk_drew ?_ | refine blk_alloc ?_ _)); exact BK216.out) hb)
    have n3_ := Aside0.mk (below_step (by repeat (first | (with_reducible first | exact HB.out | apply below_alloc | apply pw_below_drewN | apply below_drew1 | refine below_set ?_ GE215.out | refine below_set ?_ GE216.out) | exact HB.out)) hb)
    clear BK215
    clear BK216
    clear HB
    have HO219 := n0_
    have BK215 := n1_
    have BK216 := n2_
    have HB := n3_
    clear n0_ n1_ n2_ n3_
    (try clear hb)
    (try clear hb2)
    (try clear hk)
    (try clear hi)
    (try clear ho0)
    refine hK.out _ _ ⟨(blk_cell BK215.out 0).trans rfl, (blk_cell BK215.out 1).trans rfl, (blk_cell BK216.out 0).trans rfl, (blk_cell BK216.out 1).trans rfl⟩ (fun hHeld => ?_)
    clear hK K
    refine norm_ (a' := ?_) ?_ ?_
    rotate_left
    · show Act.put _ (some 23) _ = _
      simp only [Act.put, List.setIfInBounds_toArray, List.set_cons_zero, List.set_cons_succ, i64_w, i32_w]
      rfl
    refine one_ (i := 3) (N := some 25) #[true, true, true, true, false, false] rfl rfl (by kernel_rfl) (by decide) (fun K hK => ?_)
    refine goes_ Tryz.func13 (by kernel_rfl) rfl #[.agg #[.slice A1_0 l1_0.length c1_0, .slice A1_1 l1_1.length c1_1]] (by rfl) rfl rfl (by (try simp only [List.map_toArray, List.map_cons, List.map_nil]); first | done | rfl | (simp only [List.length_drop, List.length_take]; rfl)) ?_
    with_reducible refine (broadsidekeep_Tuple_Tuple.calls k _ _ l1_0 _ _ l1_1 t220 _ ?side1 ?side2 ?side3 ?side4 A6.out).mono ?_
    (case side1 => repeat (first | exact (Kd.C_below HR1_0.out HB.out) | (with_reducible refine Kd.C_alloc ?_ _) | (with_reducible refine Kd.C_drewN ?_ _) | (with_reducible refine Kd.C_drew ?_)))
    (case side2 => exact HC1_0.out)
    (case side3 => repeat (first | exact (Kd.C_below HR1_1.out HB.out) | (with_reducible refine Kd.C_alloc ?_ _) | (with_reducible refine Kd.C_drewN ?_ _) | (with_reducible refine Kd.C_drew ?_)))
    (case side4 => exact HC1_1.out)
    rintro e w13 ⟨v221, rfl, ho0, hb⟩
    refine ⟨_, rfl, ?_⟩
    have n0_ := Aside0.mk (Kd.R_elder' (by (with_reducible repeat (first | apply Kd.R_alloc | apply Kd.R_drewN | apply Kd.R_drew)); exact HO219.out) (Kd.R_base ho0) hb)
    have n1_ := Aside0.mk (Kd.R_lower (Kd.R_new' ho0 (Kd.R_lt (by (with_reducible repeat (first | apply Kd.R_alloc | apply Kd.R_drewN | apply Kd.R_drew)); exact HO219.out))) (below_size (by repeat (first | (with_reducible first | exact HB.out | apply below_alloc | apply pw_below_drewN | apply below_drew1 | refine below_set ?_ GE215.out | refine below_set ?_ GE216.out) | exact HB.out))))
    have n2_ := Aside0.mk (blk_below (g := gb215) (o := .cells #[.slice A0_0 l0_0.length c0_0, .slice A0_1 l0_1.length c0_1] 35 (0, 0)) (by (with_reducible repeat (first | refine blk_drewN ?_ _ | refine blk_drew ?_ | refine blk_alloc ?_ _)); exact BK215.out) hb)
    have n3_ := Aside0.mk (blk_below (g := gb216) (o := .cells #[.slice A1_0 l1_0.length c1_0, .slice A1_1 l1_1.length c1_1] 35 (0, 0)) (by (with_reducible repeat (first | refine blk_drewN ?_ _ | refine blk_drew ?_ | refine blk_alloc ?_ _)); exact BK216.out) hb)
    have n4_ := Aside0.mk (below_step (by repeat (first | (with_reducible first | exact HB.out | apply below_alloc | apply pw_below_drewN | apply below_drew1 | refine below_set ?_ GE215.out | refine below_set ?_ GE216.out) | exact HB.out)) hb)
    clear HO219
    clear BK215
    clear BK216
    clear HB
    have HO219 := n0_
    have HO222 := n1_
    have BK215 := n2_
    have BK216 := n3_
    have HB := n4_
    clear n0_ n1_ n2_ n3_ n4_
    (try clear hb)
    (try clear hb2)
    (try clear hk)
    (try clear hi)
    (try clear ho0)
    refine hK.out _ _ ⟨(blk_cell BK215.out 0).trans rfl, (blk_cell BK215.out 1).trans rfl, (blk_cell BK216.out 0).trans rfl, (blk_cell BK216.out 1).trans rfl⟩ (fun hHeld => ?_)
    clear hK K
    refine norm_ (a' := ?_) ?_ ?_
    rotate_left
    · show Act.put _ (some 25) _ = _
      simp only [Act.put, List.setIfInBounds_toArray, List.set_cons_zero, List.set_cons_succ, i64_w, i32_w]
      rfl
    refine pure_ (i := 4) (N := some 9) (v := ?_) (a' := ?_) #[true, true, true, true, true, false] rfl rfl (by kernel_rfl) (fun _ _ _ h => h) (Or.inl ⟨by rfl, ?_⟩) ?_ ?_
    rotate_left
    · intro w'
      go_simp
      with_reducible rfl
    rotate_left
    · simp only [Act.put, List.setIfInBounds_toArray, List.set_cons_zero, List.set_cons_succ, i64_w, i32_w]
      rfl
    refine pure_ (i := 5) (N := some 10) (v := ?_) (a' := ?_) #[true, true, true, true, true, true] rfl rfl (by kernel_rfl) (fun _ _ _ h => h) (Or.inl ⟨by rfl, ?_⟩) ?_ ?_
    rotate_left
    · intro w'
      go_simp
      with_reducible rfl
    rotate_left
    · simp only [Act.put, List.setIfInBounds_toArray, List.set_cons_zero, List.set_cons_succ, i64_w, i32_w]
      rfl
    refine done_ (by kernel_rfl) ?_
    go_upto_block 0 with (first | ((with_reducible refine gate_dst (N := 26) rfl ?_); (try (refine gate_guard (by rfl) ?_; dsimp only)); refine Kd.R_lit k25 _ 25 ?hg (N := 26) ?hd (xs := ([] : List (S25))) (inner := []) (ok := fun _ => True) (okp := fun _ => True) ?hr ?hp (fun _ hk => hk) trivial (Below.refl _ _) (Nat.le_refl _) (by simp) ?_; (case hd => rfl); (case hg => rfl); (case hr => first | (go_simp; done) | (go_simp; rfl)); (case hp => exact (Reps.none _ _)); intro v224 w14 ho15 hb hg_ hnew_; clear hg_ hnew_; (first | rw [← Ny223.out] at ho15 | (simp only [Int.reduceToNat] at ho15; rw [← Ny223.out] at ho15)); have n0_ := Aside0.mk (Kd.R_elder' (by (with_reducible repeat (first | apply Kd.R_alloc | apply Kd.R_drewN | apply Kd.R_drew)); exact HO219.out) (Kd.R_base ho15) hb); have n1_ := Aside0.mk (Kd.R_elder' (by (with_reducible repeat (first | apply Kd.R_alloc | apply Kd.R_drewN | apply Kd.R_drew)); exact HO222.out) (Kd.R_base ho15) hb); have n2_ := Aside0.mk (Kd.R_lower (Kd.R_new' (Kd.R_new' ho15 (Kd.R_lt (by (with_reducible repeat (first | apply Kd.R_alloc | apply Kd.R_drewN | apply Kd.R_drew)); exact HO219.out))) (Kd.R_lt (by (with_reducible repeat (first | apply Kd.R_alloc | apply Kd.R_drewN | apply Kd.R_drew)); exact HO222.out))) (below_size (by repeat (first | (with_reducible first | exact HB.out | apply below_alloc | apply pw_below_drewN | apply below_drew1 | refine below_set ?_ GE215.out | refine below_set ?_ GE216.out) | exact HB.out)))); have n3_ := Aside0.mk (blk_below (g := gb215) (o := .cells #[.slice A0_0 l0_0.length c0_0, .slice A0_1 l0_1.length c0_1] 35 (0, 0)) (by (with_reducible repeat (first | refine blk_drewN ?_ _ | refine blk_drew ?_ | refine blk_alloc ?_ _)); exact BK215.out) hb); have n4_ := Aside0.mk (blk_below (g := gb216) (o := .cells #[.slice A1_0 l1_0.length c1_0, .slice A1_1 l1_1.length c1_1] 35 (0, 0)) (by (with_reducible repeat (first | refine blk_drewN ?_ _ | refine blk_drew ?_ | refine blk_alloc ?_ _)); exact BK216.out) hb); have n5_ := Aside0.mk (below_step (by repeat (first | (with_reducible first | exact HB.out | apply below_alloc | apply pw_below_drewN | apply below_drew1 | refine below_set ?_ GE215.out | refine below_set ?_ GE216.out) | exact HB.out)) hb); clear HO219; clear HO222; clear BK215; clear BK216; clear HB; have HO219 := n0_; have HO222 := n1_; have HO225 := n2_; have BK215 := n3_; have BK216 := n4_; have HB := n5_; clear n0_ n1_ n2_ n3_ n4_ n5_; clear hb ho15; obtain ⟨Ao17, co17, eo17⟩ := Kd.R_slice HO219.out; subst eo17) | ((with_reducible refine gate_builtin (b := .append) (xs := #[.tmp 26, .tmp 27]) rfl ?_); (try (refine gate_guard (by rfl) ?_; dsimp only)); at_builtin; refine Kd.R_append_rows k25 (w0 := w) w.heap.size rfl (.tmp 26) (.tmp 27) 26 25 (.agg #[(.string ⟨#[]⟩), (.bool false), (.int .i64 0), (.string ⟨#[]⟩)]) 48 rfl Tryz.underlying26 info25 rfl (by decide) (by omega) v224 y223 t217 _ _ _ (fun k_ => some k_ ≠ (.slice Ao17 t217.length co17 : Value).ownBlock ∧ some k_ ≠ (v221 : Value).ownBlock) (fun _ => False) rfl rfl ?aO ?aR (fun _ _ h => h) (fun _ h => h.elim) ?aF ?aB ?aS ?aL ?_; (case aR => repeat (first | exact (Kd.R_reads' HO219.out).2.2 | (with_reducible refine Kd.C_alloc ?_ _) | (with_reducible refine Kd.C_drewN ?_ _) | (with_reducible refine Kd.C_drew ?_))); (case aB => exact (by repeat (first | (with_reducible first | exact HB.out | apply below_alloc | apply pw_below_drewN | apply below_drew1 | refine below_set ?_ GE215.out | refine below_set ?_ GE216.out) | exact HB.out))); (case aF => exact (fun k_ hk => ⟨Kd.fresh' (Kd.R_lt (by (with_reducible repeat (first | apply Kd.R_alloc | apply Kd.R_drewN | apply Kd.R_drew)); exact HO219.out)) k_ hk, Kd.fresh' (Kd.R_lt (by (with_reducible repeat (first | apply Kd.R_alloc | apply Kd.R_drewN | apply Kd.R_drew)); exact HO222.out)) k_ hk⟩)); (case aO => exact (by (with_reducible repeat (first | apply Kd.R_alloc | apply Kd.R_drewN | apply Kd.R_drew)); exact Kd.R_mono HO225.out (fun _ hk => ⟨hk.1.2, hk.2⟩))); (case aS => exact (below_size (by repeat (first | (with_reducible first | exact HB.out | apply below_alloc | apply pw_below_drewN | apply below_drew1 | refine below_set ?_ GE215.out | refine below_set ?_ GE216.out) | exact HB.out)))); (case aL => have := LMc7.out; omega); intro v227 w16 ho hb hg hat; rw [← Ny226.out] at ho; have n0_ := Aside0.mk (blk_grown (g := gb215) (o := .cells #[.slice A0_0 l0_0.length c0_0, .slice A0_1 l0_1.length c0_1] 35 (0, 0)) (by (with_reducible repeat (first | refine blk_drewN ?_ _ | refine blk_drew ?_ | refine blk_alloc ?_ _)); exact BK215.out) hg (Kd.R_ne HO225.out BK215.out (by decide))); have n1_ := Aside0.mk (blk_grown (g := gb216) (o := .cells #[.slice A1_0 l1_0.length c1_0, .slice A1_1 l1_1.length c1_1] 35 (0, 0)) (by (with_reducible repeat (first | refine blk_drewN ?_ _ | refine blk_drew ?_ | refine blk_alloc ?_ _)); exact BK216.out) hg (Kd.R_ne HO225.out BK216.out (by decide))); have n2_ := Aside0.mk (Kd.R_after (ok := (fun k_ => some k_ ≠ (v221 : Value).ownBlock)) (by (with_reducible repeat (first | apply Kd.R_alloc | apply Kd.R_drewN | apply Kd.R_drew)); exact Kd.R_mono HO219.out (fun _ hk => ⟨hk.1.2, hk.2⟩)) hg hat); have n3_ := Aside0.mk (Kd.R_after (ok := (fun k_ => some k_ ≠ (.slice Ao17 t217.length co17 : Value).ownBlock)) (by (with_reducible repeat (first | apply Kd.R_alloc | apply Kd.R_drewN | apply Kd.R_drew)); exact Kd.R_mono HO222.out (fun _ hk => ⟨hk.1.2, hk.2⟩)) hg hat); have n4_ := Aside0.mk (hb); have n5_ := Aside0.mk (ho); clear BK215; clear BK216; clear HO219; clear HO222; clear HB; clear HO225; have BK215 := n0_; have BK216 := n1_; have HO219 := n2_; have HO222 := n3_; have HB := n4_; have HO228 := n5_; clear n0_ n1_ n2_ n3_ n4_ n5_; clear ho hb hg hat))
    (try simp only [Act.put, List.setIfInBounds_toArray, List.set_cons_zero, List.set_cons_succ])
    go_cut [11] (fun v11 wc => ∃ (kq : Nat) (x11_7 : List (S25)), Aside0 (broadsidelaw3_TuplePuts.j1 kq a3 t217 t220 x11_7 = some r) ∧ Aside0 (kq ≤ k) ∧ Aside0 (Kd.R k25 25 wc w.heap.size (fun k_ => some k_ ≠ (v221 : Value).ownBlock ∧ some k_ ≠ (v11 : Value).ownBlock) (.slice Ao17 t217.length co17) t217) ∧ Aside0 (Kd.R k25 25 wc w.heap.size (fun k_ => some k_ ≠ ((.slice Ao17 t217.length co17) : Value).ownBlock ∧ some k_ ≠ (v11 : Value).ownBlock) v221 t220) ∧ Aside0 (Kd.R k25 25 wc w.heap.size (fun k_ => some k_ ≠ ((.slice Ao17 t217.length co17) : Value).ownBlock ∧ some k_ ≠ (v221 : Value).ownBlock) v11 x11_7) ∧ Aside0 (wc.heap[gb215]? = some (.cells #[(.slice A0_0 l0_0.length c0_0), (.slice A0_1 l0_1.length c0_1)] 35 (0, 0))) ∧ Aside0 (wc.heap[gb216]? = some (.cells #[(.slice A1_0 l1_0.length c1_0), (.slice A1_1 l1_1.length c1_1)] 35 (0, 0))) ∧ Aside0 (Below w.heap.size w wc))
    case first =>
      have H := HC8.out
      clear HC8
      have H' := Aside0.mk H
      clear H
      go_wp2
      go_loopg [11, 12] k (fun kq v11 v12 w' => ∃ (x11_1 : List (S25)) (x12_1 : Int), v12 = .int .i64 x12_1 ∧ Aside0 (broadsidelaw3_TuplePuts.l0 kq l2 a3 t217 t220 x11_1 x12_1 = some r) ∧ Aside0 (kq ≤ k) ∧ Aside0 (Kd.R k25 25 w' w.heap.size (fun k_ => some k_ ≠ (v221 : Value).ownBlock ∧ some k_ ≠ (v11 : Value).ownBlock) (.slice Ao17 t217.length co17) t217) ∧ Aside0 (Kd.R k25 25 w' w.heap.size (fun k_ => some k_ ≠ ((.slice Ao17 t217.length co17) : Value).ownBlock ∧ some k_ ≠ (v11 : Value).ownBlock) v221 t220) ∧ Aside0 (Kd.R k25 25 w' w.heap.size (fun k_ => some k_ ≠ ((.slice Ao17 t217.length co17) : Value).ownBlock ∧ some k_ ≠ (v221 : Value).ownBlock) v11 x11_1) ∧ Aside0 (w'.heap[gb215]? = some (.cells #[(.slice A0_0 l0_0.length c0_0), (.slice A0_1 l0_1.length c0_1)] 35 (0, 0))) ∧ Aside0 (w'.heap[gb216]? = some (.cells #[(.slice A1_0 l1_0.length c1_0), (.slice A1_1 l1_1.length c1_1)] 35 (0, 0))) ∧ Aside0 (Below w.heap.size w w'))
      case atStart => exact ⟨(y226), (0), (by first | rfl | (simp; done) | (simp [*]; done)), H', ⟨Nat.le_refl _⟩, ⟨by (with_reducible repeat (first | apply Kd.R_alloc | apply Kd.R_drewN | apply Kd.R_drew)); exact HO219.out⟩, ⟨by (with_reducible repeat (first | apply Kd.R_alloc | apply Kd.R_drewN | apply Kd.R_drew)); exact HO222.out⟩, ⟨by (with_reducible repeat (first | apply Kd.R_alloc | apply Kd.R_drewN | apply Kd.R_drew)); exact HO228.out⟩, ⟨by (with_reducible repeat (first | refine blk_drewN ?_ _ | refine blk_drew ?_ | refine blk_alloc ?_ _)); exact BK215.out⟩, ⟨by (with_reducible repeat (first | refine blk_drewN ?_ _ | refine blk_drew ?_ | refine blk_alloc ?_ _)); exact BK216.out⟩, ⟨by repeat (first | (with_reducible first | exact HB.out | apply below_alloc | apply pw_below_drewN | apply below_drew1 | refine below_set ?_ GE215.out | refine below_set ?_ GE216.out) | exact HB.out)⟩⟩
      case round =>
        clear H'
        try clear c1
        try clear c2
        try clear p2
        try clear c6
        try clear c7
        try clear c13
        obtain ⟨x11_1, x12_1, rfl, HA, HK1, HO_9, HO_10, HO_11, BK215, BK216, HB⟩ := hrel
        cases gk with
        | zero => exact absurd HA.out (by simp [broadsidelaw3_TuplePuts.l0])
        | succ k1 =>
          have H := HA.out
          clear HA
          simp only [broadsidelaw3_TuplePuts.l0] at H
          by_cases c18 : x12_1 < (l2.length : Int)
          · rw [if_pos c18] at H
            have c18b0 : decide (x12_1 < (l2.length : Int)) = true := decide_eq_true c18
            clear c18
            (first | rw [c18b0] | (simp only [i64_w, i32_w]; rw [c18b0]) | skip)
            by_cases c19 : (x11_1.length : Int) > 1
            · rw [if_pos c19] at H
              have c19b0 : decide (1 < (x11_1.length : Int)) = true := decide_eq_true c19
              have c19b1 : decide (1 < x11_1.length) = true := decide_eq_true (by omega)
              clear c19
              by_cases c20 : 0 ≤ x12_1
              · rw [if_pos c20] at H
                have c20b0 : decide (0 ≤ x12_1) = true := decide_eq_true c20
                clear c20
                replace H := Option.bind_eq_some_iff.mp H
                obtain ⟨t230, A210, H⟩ := H
                replace H : ((some (([] : List (S25)) : List (S25))).bind fun y231 => (if 0 ≤ t230 then (if t230 < (x11_1.length : Int) then (if y231.length < 2932031007402 then ((some (y231 ++ [(⟨(rd_T25 x11_1 t230).f0, (⟨(rd_T25 x11_1 t230).f1.f0, (rd_T25 x11_1 t230).f1.f1, (rd_T25 x11_1 t230).f1.f2⟩ : S23)⟩ : S25)] : List (S25))).bind fun y235 => (if t230 ≤ (x11_1.length : Int) then ((some (x11_1.take (t230 : Int).toNat : List (S25))).bind fun y238 => (if y235.length + y238.length < 2932031007402 then ((some (y235 ++ y238 : List (S25))).bind fun y242 => (if 0 ≤ (wrap64 (t230 + 1)) then (if (wrap64 (t230 + 1)) ≤ (x11_1.length : Int) then ((some (x11_1.drop ((wrap64 (t230 + 1)) : Int).toNat : List (S25))).bind fun y245 => (if y242.length + y245.length < 2932031007402 then (broadsidelaw3_TuplePuts.l0 k1 l2 a3 t217 t220 (y242 ++ y245) (wrap64 (x12_1 + 1))) else (none))) else (none)) else (none))) else (none))) else (none))) else (none)) else (none)) else (none))) = some r := H
                have A21 := Aside0.mk A210
                clear A210
                obtain ⟨y231, hy231⟩ : ∃ y_ : List (S25), y_ = (([] : List (S25))) := ⟨_, rfl⟩
                replace H : (if 0 ≤ t230 then (if t230 < (x11_1.length : Int) then (if y231.length < 2932031007402 then ((some (y231 ++ [(⟨(rd_T25 x11_1 t230).f0, (⟨(rd_T25 x11_1 t230).f1.f0, (rd_T25 x11_1 t230).f1.f1, (rd_T25 x11_1 t230).f1.f2⟩ : S23)⟩ : S25)] : List (S25))).bind fun y235 => (if t230 ≤ (x11_1.length : Int) then ((some (x11_1.take (t230 : Int).toNat : List (S25))).bind fun y238 => (if y235.length + y238.length < 2932031007402 then ((some (y235 ++ y238 : List (S25))).bind fun y242 => (if 0 ≤ (wrap64 (t230 + 1)) then (if (wrap64 (t230 + 1)) ≤ (x11_1.length : Int) then ((some (x11_1.drop ((wrap64 (t230 + 1)) : Int).toNat : List (S25))).bind fun y245 => (if y242.length + y245.length < 2932031007402 then (broadsidelaw3_TuplePuts.l0 k1 l2 a3 t217 t220 (y242 ++ y245) (wrap64 (x12_1 + 1))) else (none))) else (none)) else (none))) else (none))) else (none))) else (none)) else (none)) else (none)) = some r := by first | (rw [hy231]; with_reducible exact H) | (have H2_ := (Option.bind_some _ _).symm.trans H; rw [hy231]; with_reducible exact H2_) | (have H2_ := (Option.bind_some _ _).symm.trans H; with_reducible exact H2_) | with_reducible exact H | (rw [hy231]; exact H) | exact H
                have Ny231 := Aside0.mk hy231
                clear hy231
                by_cases c22 : 0 ≤ t230
                · rw [if_pos c22] at H
                  have c22b0 : decide (0 ≤ t230) = true := decide_eq_true c22
                  clear c22
                  by_cases c23 : t230 < (x11_1.length : Int)
                  · rw [if_pos c23] at H
                    have c23b0 : decide (t230 < (x11_1.length : Int)) = true := decide_eq_true c23
                    clear c23
                    by_cases c24 : y231.length < 2932031007402
                    · rw [if_pos c24] at H
                      have LMc24 := Aside0.mk c24
                      clear c24
                      obtain ⟨y235, hy235⟩ : ∃ y_ : List (S25), y_ = (y231 ++ [(⟨(rd_T25 x11_1 t230).f0, (⟨(rd_T25 x11_1 t230).f1.f0, (rd_T25 x11_1 t230).f1.f1, (rd_T25 x11_1 t230).f1.f2⟩ : S23)⟩ : S25)]) := ⟨_, rfl⟩
                      replace H : (if t230 ≤ (x11_1.length : Int) then ((some (x11_1.take (t230 : Int).toNat : List (S25))).bind fun y238 => (if y235.length + y238.length < 2932031007402 then ((some (y235 ++ y238 : List (S25))).bind fun y242 => (if 0 ≤ (wrap64 (t230 + 1)) then (if (wrap64 (t230 + 1)) ≤ (x11_1.length : Int) then ((some (x11_1.drop ((wrap64 (t230 + 1)) : Int).toNat : List (S25))).bind fun y245 => (if y242.length + y245.length < 2932031007402 then (broadsidelaw3_TuplePuts.l0 k1 l2 a3 t217 t220 (y242 ++ y245) (wrap64 (x12_1 + 1))) else (none))) else (none)) else (none))) else (none))) else (none)) = some r := by first | (rw [hy235]; with_reducible exact H) | (have H2_ := (Option.bind_some _ _).symm.trans H; rw [hy235]; with_reducible exact H2_) | (have H2_ := (Option.bind_some _ _).symm.trans H; with_reducible exact H2_) | with_reducible exact H | (rw [hy235]; exact H) | exact H
                      have Ny235 := Aside0.mk hy235
                      clear hy235
                      have c25b0 := eq_true (of_decide_eq_true (by first | (with_reducible assumption) | assumption) : 0 ≤ t230)
                      by_cases c26 : t230 ≤ (x11_1.length : Int)
                      · rw [if_pos c26] at H
                        have c26b0 := eq_true c26
                        have c26b1 : decide (t230 ≤ (x11_1.length : Int)) = true := decide_eq_true c26
                        clear c26
                        obtain ⟨y238, hy238⟩ : ∃ y_ : List (S25), y_ = (x11_1.take (t230 : Int).toNat) := ⟨_, rfl⟩
                        replace H : (if y235.length + y238.length < 2932031007402 then ((some (y235 ++ y238 : List (S25))).bind fun y242 => (if 0 ≤ (wrap64 (t230 + 1)) then (if (wrap64 (t230 + 1)) ≤ (x11_1.length : Int) then ((some (x11_1.drop ((wrap64 (t230 + 1)) : Int).toNat : List (S25))).bind fun y245 => (if y242.length + y245.length < 2932031007402 then (broadsidelaw3_TuplePuts.l0 k1 l2 a3 t217 t220 (y242 ++ y245) (wrap64 (x12_1 + 1))) else (none))) else (none)) else (none))) else (none)) = some r := by first | (rw [hy238]; with_reducible exact H) | (have H2_ := (Option.bind_some _ _).symm.trans H; rw [hy238]; with_reducible exact H2_) | (have H2_ := (Option.bind_some _ _).symm.trans H; with_reducible exact H2_) | with_reducible exact H | (rw [hy238]; exact H) | exact H
                        have Ny238 := Aside0.mk hy238
                        clear hy238
                        by_cases c27 : y235.length + y238.length < 2932031007402
                        · rw [if_pos c27] at H
                          have LMc27 := Aside0.mk c27
                          clear c27
                          obtain ⟨y242, hy242⟩ : ∃ y_ : List (S25), y_ = (y235 ++ y238) := ⟨_, rfl⟩
                          replace H : (if 0 ≤ (wrap64 (t230 + 1)) then (if (wrap64 (t230 + 1)) ≤ (x11_1.length : Int) then ((some (x11_1.drop ((wrap64 (t230 + 1)) : Int).toNat : List (S25))).bind fun y245 => (if y242.length + y245.length < 2932031007402 then (broadsidelaw3_TuplePuts.l0 k1 l2 a3 t217 t220 (y242 ++ y245) (wrap64 (x12_1 + 1))) else (none))) else (none)) else (none)) = some r := by first | (rw [hy242]; with_reducible exact H) | (have H2_ := (Option.bind_some _ _).symm.trans H; rw [hy242]; with_reducible exact H2_) | (have H2_ := (Option.bind_some _ _).symm.trans H; with_reducible exact H2_) | with_reducible exact H | (rw [hy242]; exact H) | exact H
                          have Ny242 := Aside0.mk hy242
                          clear hy242
                          obtain ⟨ji28, hji28⟩ : ∃ j_ : Int, (wrap64 (t230 + 1)) = j_ := ⟨_, rfl⟩
                          replace H : (if 0 ≤ (ji28) then (if (ji28) ≤ (x11_1.length : Int) then ((some (x11_1.drop ((ji28) : Int).toNat : List (S25))).bind fun y245 => (if y242.length + y245.length < 2932031007402 then (broadsidelaw3_TuplePuts.l0 k1 l2 a3 t217 t220 (y242 ++ y245) (wrap64 (x12_1 + 1))) else (none))) else (none)) else (none)) = some r := by first | (rw [hji28] at H; exact H) | (simp only [hji28] at H ⊢; exact H)
                          (try rw [hji28] at A21)
                          have hji28w : (IntKind.i64.wrap (t230 + 1)) = ji28 := (i64_w _).trans hji28
                          by_cases c29 : 0 ≤ (ji28)
                          · rw [if_pos c29] at H
                            have c29b0 := eq_true c29
                            have c29b1 : decide (0 ≤ (ji28)) = true := decide_eq_true c29
                            clear c29
                            by_cases c30 : (ji28) ≤ (x11_1.length : Int)
                            · rw [if_pos c30] at H
                              have c30b0 := eq_true c30
                              have c30b1 : decide ((ji28) ≤ (x11_1.length : Int)) = true := decide_eq_true c30
                              clear c30
                              obtain ⟨y245, hy245⟩ : ∃ y_ : List (S25), y_ = (x11_1.drop ((ji28) : Int).toNat) := ⟨_, rfl⟩
                              replace H : (if y242.length + y245.length < 2932031007402 then (broadsidelaw3_TuplePuts.l0 k1 l2 a3 t217 t220 (y242 ++ y245) (wrap64 (x12_1 + 1))) else (none)) = some r := by first | (rw [hy245]; with_reducible exact H) | (have H2_ := (Option.bind_some _ _).symm.trans H; rw [hy245]; with_reducible exact H2_) | (have H2_ := (Option.bind_some _ _).symm.trans H; with_reducible exact H2_) | with_reducible exact H | (rw [hy245]; exact H) | exact H
                              have Ny245 := Aside0.mk hy245
                              clear hy245
                              by_cases c31 : y242.length + y245.length < 2932031007402
                              · rw [if_pos c31] at H
                                have LMc31 := Aside0.mk c31
                                clear c31
                                obtain ⟨y249, hy249⟩ : ∃ y_ : List (S25), y_ = (y242 ++ y245) := ⟨_, rfl⟩
                                replace H : (broadsidelaw3_TuplePuts.l0 k1 l2 a3 t217 t220 y249 (wrap64 (x12_1 + 1))) = some r := by first | (rw [hy249]; with_reducible exact H) | (have H2_ := (Option.bind_some _ _).symm.trans H; rw [hy249]; with_reducible exact H2_) | (have H2_ := (Option.bind_some _ _).symm.trans H; with_reducible exact H2_) | with_reducible exact H | (rw [hy249]; exact H) | exact H
                                have Ny249 := Aside0.mk hy249
                                clear hy249
                                have H' := Aside0.mk H
                                clear H
                                obtain ⟨Ao32, co32, eo32⟩ := Kd.R_slice HO_11.out
                                subst eo32
                                have p229 : 0 ≤ (x12_1 : Int) := of_decide_eq_true (by first | (with_reducible assumption) | assumption)
                                have q229 : x12_1 < (l2.length : Int) := of_decide_eq_true (by first | (with_reducible assumption) | assumption)
                                obtain ⟨ad229, e229, hx229_0⟩ := Kd.at_int HR2.out x12_1 p229 q229
                                cases e229
                                replace hx229_0 := (HB.out.cell (World.block_lt_of_cell? w _ hx229_0)).trans hx229_0
                                replace p229 := eq_true p229
                                replace q229 := eq_true q229
                                go_upto_region 7 with (first | ((with_reducible refine gate_callee (f := 12) rfl ?_); refine goesL_ (some 47) rfl rfl Tryz.func12 (by kernel_rfl) rfl #[.int .i64 (rd l2 x12_1), .int .i64 0, .int .i64 (wrap64 ((x11_1.length : Int) - 1))] rfl (by (try simp only [List.map_toArray, List.map_cons, List.map_nil]); first | done | rfl | (simp only [List.length_drop, List.length_take]; rfl)) ?_; (with_reducible refine (broadsidebook_Within.calls (rd l2 x12_1) 0 (wrap64 ((x11_1.length : Int) - 1)) t230 _ A21.out).mono ?_); rintro e wq ⟨rfl, ⟨nd, hnd⟩⟩; refine ⟨_, rfl, ?_⟩; have hbq := pw_of_drewN hnd; clear hnd nd))
                                have n_HO_9 := Aside0.mk (Kd.R_below HO_9.out hbq)
                                have n_HO_10 := Aside0.mk (Kd.R_below HO_10.out hbq)
                                have n_HO_11 := Aside0.mk (Kd.R_below HO_11.out hbq)
                                have n_BK215 := Aside0.mk (blk_below (g := gb215) (o := .cells #[.slice A0_0 l0_0.length c0_0, .slice A0_1 l0_1.length c0_1] 35 (0, 0)) BK215.out hbq)
                                have n_BK216 := Aside0.mk (blk_below (g := gb216) (o := .cells #[.slice A1_0 l1_0.length c1_0, .slice A1_1 l1_1.length c1_1] 35 (0, 0)) BK216.out hbq)
                                have n_HB := Aside0.mk (below_step HB.out hbq)
                                clear HO_9 HO_10 HO_11 BK215 BK216 HB hbq
                                have HO_9 := n_HO_9
                                have HO_10 := n_HO_10
                                have HO_11 := n_HO_11
                                have BK215 := n_BK215
                                have BK216 := n_BK216
                                have HB := n_HB
                                clear n_HO_9 n_HO_10 n_HO_11 n_BK215 n_BK216 n_HB
                                have p234 : 0 ≤ (t230 : Int) := of_decide_eq_true (by first | (with_reducible assumption) | assumption)
                                have q234 : t230 < (x11_1.length : Int) := of_decide_eq_true (by first | (with_reducible assumption) | assumption)
                                obtain ⟨ad234, e234, hx234_0, hx234_1, hx234_2, hx234_3⟩ := at_T25 (Kd.R_reads' HO_11.out).2.2 t230 p234 q234
                                cases e234
                                have q36 : (t230 : Int) ≤ ((x11_1.length : Int) : Int) := of_decide_eq_true (by first | (with_reducible assumption) | assumption)
                                have q38 : ((ji28) : Int) ≤ ((x11_1.length : Int) : Int) := of_decide_eq_true (by first | (with_reducible assumption) | assumption)
                                have q038 : (0 : Int) ≤ ((ji28) : Int) := of_decide_eq_true (by first | (with_reducible assumption) | assumption)
                                obtain ⟨i036, hi036, _, hsz36, _⟩ := info_parts info25
                                have hroom36 : x11_1.length ≤ co32 := (Kd.R_reads' HO_11.out).2.1
                                have hC36 : Kd.C k25 wq (some ad234) x11_1.length x11_1 := (Kd.R_reads' HO_11.out).2.2
                                have hcut36 := cut_to (P := Tryz.prog) 26 25 .i64 Tryz.underlying26 hi036 (some ad234) x11_1.length co32 t230 p234 q36 hroom36
                                have hcut38 := cut_from (P := Tryz.prog) 26 25 .i64 Tryz.underlying26 hi036 4 hsz36 (some ad234) x11_1.length co32 ji28 q038 q38
                                have hr36 := Kd.C_take (m := (t230 : Int).toNat) hC36 (by omega)
                                have hr38 := Kd.C_drop (m := ((ji28) : Int).toNat) (c := co32) hC36 (by omega) hroom36
                                have hy36 : y238.length = (t230 : Int).toNat := (by rw [Ny238.out, List.length_take]; omega)
                                have hy38 : y245.length = x11_1.length - ((ji28) : Int).toNat := (by rw [Ny245.out, List.length_drop])
                                obtain ⟨A38, hA38⟩ : ∃ A1, A1 = (if co32 = ((ji28) : Int).toNat then (some ad234) else ((some ad234) : Option Addr).map (·.add (((ji28) : Int).toNat * 4))) := ⟨_, rfl⟩
                                obtain ⟨c38, hc38⟩ : ∃ c1, c1 = co32 - ((ji28) : Int).toNat := ⟨_, rfl⟩
                                replace hr38 : Kd.C k25 wq A38 y245.length y245 := (by rw [hA38, Ny245.out]; exact hr38)
                                replace hr36 : Kd.C k25 wq (some ad234) y238.length y238 := (by rw [Ny238.out]; exact hr36)
                                rw [← hy36] at hcut36
                                rw [← hy38, ← hA38, ← hc38] at hcut38
                                have HR36 := Aside0.mk hr36
                                have HR38 := Aside0.mk hr38
                                clear hr36 hr38 hC36 hi036 hsz36 hy36 hy38 hA38 hc38 hroom36
                                have hS : ∀ w', Below wq.heap.size wq w' → w'.cell? (ad234.add (t230.toNat * 4)) = some (.string (rd_T25 x11_1 t230).f0) ∧ w'.cell? ⟨(ad234.add (t230.toNat * 4)).block, (ad234.add (t230.toNat * 4)).off + 1, none⟩ = some (.bool (rd_T25 x11_1 t230).f1.f0) ∧ w'.cell? ⟨(ad234.add (t230.toNat * 4)).block, (ad234.add (t230.toNat * 4)).off + 2, none⟩ = some (.int .i64 (rd_T25 x11_1 t230).f1.f1) ∧ w'.cell? ⟨(ad234.add (t230.toNat * 4)).block, (ad234.add (t230.toNat * 4)).off + 3, none⟩ = some (.string (rd_T25 x11_1 t230).f1.f2) := fun w' hw => ⟨(hw.cell (World.block_lt_of_cell? wq _ hx234_0)).trans hx234_0, (hw.cell (World.block_lt_of_cell? wq _ hx234_1)).trans hx234_1, (hw.cell (World.block_lt_of_cell? wq _ hx234_2)).trans hx234_2, (hw.cell (World.block_lt_of_cell? wq _ hx234_3)).trans hx234_3⟩
                                clear hx234_0 hx234_1 hx234_2 hx234_3
                                replace p234 := eq_true p234
                                replace q234 := eq_true q234
                                replace q36 := eq_true q36
                                replace q38 := eq_true q38
                                refine start_ (n := 17) (S := fun w' => w'.cell? (ad234.add (t230.toNat * 4)) = some (.string (rd_T25 x11_1 t230).f0) ∧ w'.cell? ⟨(ad234.add (t230.toNat * 4)).block, (ad234.add (t230.toNat * 4)).off + 1, none⟩ = some (.bool (rd_T25 x11_1 t230).f1.f0) ∧ w'.cell? ⟨(ad234.add (t230.toNat * 4)).block, (ad234.add (t230.toNat * 4)).off + 2, none⟩ = some (.int .i64 (rd_T25 x11_1 t230).f1.f1) ∧ w'.cell? ⟨(ad234.add (t230.toNat * 4)).block, (ad234.add (t230.toNat * 4)).off + 3, none⟩ = some (.string (rd_T25 x11_1 t230).f1.f2)) (ds := []) #[false, false, false, false, false, false, false, false, false, false, false, false, false, false, false, false, false] (by kernel_rfl) rfl rfl (hS _ (below_drew1 (Below.refl _ _))) (fun hHeld => ?_)
                                have hW0 : Below wq.heap.size wq wq.drew := below_drew1 (Below.refl _ _)
                                have hbase : wq.heap.size ≤ wq.drew.heap.size := hW0.size
                                have hSz := fun (W' : World) (hW : Below wq.drew.heap.size wq.drew W') => hS W' (below_step hW0 hW)
                                generalize wq.drew = W0 at hW0 hbase hHeld hSz ⊢
                                have HR36 := Aside0.mk (Kd.C_below HR36.out hW0)
                                have HR38 := Aside0.mk (Kd.C_below HR38.out hW0)
                                clear hS
                                refine pure_ (i := 1) (N := (some 49)) (v := ?_) (a' := ?_) #[false, true, false, false, false, false, false, false, false, false, false, false, false, false, false, false, false] rfl rfl (by kernel_rfl) (fun _ _ _ h => h) (Or.inl ⟨by rfl, ?_⟩) ?_ ?_
                                rotate_left
                                · intro w'
                                  go_simp
                                  with_reducible rfl
                                rotate_left
                                · simp only [Act.put, List.setIfInBounds_toArray, List.set_cons_zero, List.set_cons_succ, i64_w, i32_w]
                                  rfl
                                refine pure_ (i := 2) (N := (some 50)) (v := ?_) (a' := ?_) #[false, true, true, false, false, false, false, false, false, false, false, false, false, false, false, false, false] rfl rfl (by kernel_rfl) (fun _ _ _ h => h) (Or.inl ⟨by rfl, ?_⟩) ?_ ?_
                                rotate_left
                                · intro w'
                                  go_simp
                                  with_reducible rfl
                                rotate_left
                                · simp only [Act.put, List.setIfInBounds_toArray, List.set_cons_zero, List.set_cons_succ, i64_w, i32_w]
                                  rfl
                                refine pure_ (i := 3) (N := (some 51)) (v := ?_) (a' := ?_) #[false, true, true, true, false, false, false, false, false, false, false, false, false, false, false, false, false] rfl rfl (by kernel_rfl) (fun _ _ _ h => h) (Or.inl ⟨by rfl, ?_⟩) ?_ ?_
                                rotate_left
                                · intro w'
                                  go_simp
                                  with_reducible rfl
                                rotate_left
                                · simp only [Act.put, List.setIfInBounds_toArray, List.set_cons_zero, List.set_cons_succ, i64_w, i32_w]
                                  rfl
                                refine take_ (i := 4) (N := (some 52)) (v := ?_) (a' := ?_) #[false, true, true, true, true, false, false, false, false, false, false, false, false, false, false, false, false] rfl rfl (by kernel_rfl) (fun _ _ _ h => h) (Or.inl ⟨by rfl, ?_⟩) hHeld ?_ ?_
                                rotate_left
                                · rintro w' ⟨s0, s1, s2, s3⟩
                                  go_simp
                                  with_reducible rfl
                                rotate_left
                                · simp only [Act.put, List.setIfInBounds_toArray, List.set_cons_zero, List.set_cons_succ, i64_w, i32_w]
                                  rfl
                                refine pure_ (i := 7) (N := (some 55)) (v := ?_) (a' := ?_) #[false, true, true, true, true, false, false, true, false, false, false, false, false, false, false, false, false] rfl rfl (by kernel_rfl) (fun _ _ _ h => h) (Or.inl ⟨by rfl, ?_⟩) ?_ ?_
                                rotate_left
                                · intro w'
                                  go_simp
                                  with_reducible rfl
                                rotate_left
                                · simp only [Act.put, List.setIfInBounds_toArray, List.set_cons_zero, List.set_cons_succ, i64_w, i32_w]
                                  rfl
                                refine pure_ (i := 8) (N := (some 56)) (v := ?_) (a' := ?_) #[false, true, true, true, true, false, false, true, true, false, false, false, false, false, false, false, false] rfl rfl (by kernel_rfl) (fun _ _ _ h => h) (Or.inl ⟨by rfl, ?_⟩) ?_ ?_
                                rotate_left
                                · intro w'
                                  go_simp
                                  with_reducible rfl
                                rotate_left
                                · simp only [Act.put, List.setIfInBounds_toArray, List.set_cons_zero, List.set_cons_succ, i64_w, i32_w]
                                  rfl
                                refine pure_ (i := 9) (N := (some 57)) (v := ?_) (a' := ?_) #[false, true, true, true, true, false, false, true, true, true, false, false, false, false, false, false, false] rfl rfl (by kernel_rfl) (fun _ _ _ h => h) (Or.inl ⟨by rfl, ?_⟩) ?_ ?_
                                rotate_left
                                · intro w'
                                  go_simp
                                  with_reducible rfl
                                rotate_left
                                · simp only [Act.put, List.setIfInBounds_toArray, List.set_cons_zero, List.set_cons_succ, i64_w, i32_w]
                                  rfl
                                refine pure_ (i := 11) (N := (some 59)) (v := ?_) (a' := ?_) #[false, true, true, true, true, false, false, true, true, true, false, true, false, false, false, false, false] rfl rfl (by kernel_rfl) (fun _ _ _ h => h) (Or.inl ⟨by rfl, ?_⟩) ?_ ?_
                                rotate_left
                                · intro w'
                                  go_simp
                                  with_reducible rfl
                                rotate_left
                                · simp only [Act.put, List.setIfInBounds_toArray, List.set_cons_zero, List.set_cons_succ, i64_w, i32_w]
                                  rfl
                                refine pure_ (i := 12) (N := (some 60)) (v := ?_) (a' := ?_) #[false, true, true, true, true, false, false, true, true, true, false, true, true, false, false, false, false] rfl rfl (by kernel_rfl) (fun _ _ _ h => h) (Or.inl ⟨by rfl, ?_⟩) ?_ ?_
                                rotate_left
                                · intro w'
                                  go_simp
                                  with_reducible rfl
                                rotate_left
                                · simp only [Act.put, List.setIfInBounds_toArray, List.set_cons_zero, List.set_cons_succ, i64_w, i32_w]
                                  rfl
                                refine pure_ (i := 13) (N := (some 61)) (v := ?_) (a' := ?_) #[false, true, true, true, true, false, false, true, true, true, false, true, true, true, false, false, false] rfl rfl (by kernel_rfl) (fun _ _ _ h => h) (Or.inl ⟨by rfl, ?_⟩) ?_ ?_
                                rotate_left
                                · intro w'
                                  go_simp
                                  with_reducible rfl
                                rotate_left
                                · simp only [Act.put, List.setIfInBounds_toArray, List.set_cons_zero, List.set_cons_succ, i64_w, i32_w]
                                  rfl
                                refine pure_ (i := 14) (N := (some 62)) (v := ?_) (a' := ?_) #[false, true, true, true, true, false, false, true, true, true, false, true, true, true, true, false, false] rfl rfl (by kernel_rfl) (fun _ _ _ h => h) (Or.inl ⟨by rfl, ?_⟩) ?_ ?_
                                rotate_left
                                · intro w'
                                  go_simp
                                  with_reducible rfl
                                rotate_left
                                · simp only [Act.put, List.setIfInBounds_toArray, List.set_cons_zero, List.set_cons_succ, i64_w, i32_w]
                                  rfl
                                refine join_ (σ := Nat × Nat) 4 #[true, true, true, true, true, true, false, true, true, true, false, true, true, true, true, false, false] (fun s => [(48, .slice (some ⟨s.1, 0, none⟩) 0 0), (53, .slice (some ⟨s.2, 0, none⟩) 1 1)]) (fun s W' => J2 W0 #[.string (rd_T25 x11_1 t230).f0, .bool (rd_T25 x11_1 t230).f1.f0, .int .i64 (rd_T25 x11_1 t230).f1.f1, .string (rd_T25 x11_1 t230).f1.f2] s.1 s.2 W') ?_ ?_
                                rotate_left
                                · intro hJ
                                  refine two_ (i := 0) (j := 5) (Ni := some 48) (Nj := some 53) #[true, true, true, true, true, false, false, true, true, true, false, true, true, true, true, false, false] #[false, true, true, true, true, true, false, true, true, true, false, true, true, true, true, false, false] rfl rfl rfl rfl (by kernel_rfl) (by decide) (by decide) (fun K hK => ?_) (fun K hK => ?_)
                                  · skip
                                    refine value_ (w1 := W0.alloc (.cells #[] 25)) (v := .slice (some ⟨W0.heap.size, 0, none⟩) 0 0) (by rfl) rfl (by go_simp) ?_
                                    refine hK.out _ _ (hSz _ (below_alloc (Below.refl _ _) _)) (fun hHeld => ?_)
                                    clear hK K
                                    refine norm_ (a' := ?_) ?_ ?_
                                    rotate_left
                                    · show Act.put _ (some 48) _ = _
                                      simp only [Act.put, List.setIfInBounds_toArray, List.set_cons_zero, List.set_cons_succ, i64_w, i32_w]
                                      rfl
                                    refine one_ (i := 5) (N := (some 53)) #[true, true, true, true, true, true, false, true, true, true, false, true, true, true, true, false, false] rfl rfl (by kernel_rfl) (by decide) (fun K hK => ?_)
                                    refine value_ (w1 := (W0.alloc (.cells #[] 25)).alloc (.cells #[.string (rd_T25 x11_1 t230).f0, .bool (rd_T25 x11_1 t230).f1.f0, .int .i64 (rd_T25 x11_1 t230).f1.f1, .string (rd_T25 x11_1 t230).f1.f2] 25)) (v := .slice (some ⟨(W0.alloc (.cells #[] 25)).heap.size, 0, none⟩) 1 1) (by rfl) rfl (by go_simp) ?_
                                    refine hK.out _ _ (hSz _ (below_alloc (below_alloc (Below.refl _ _) _) _)) (fun hHeld => ?_)
                                    clear hK K
                                    refine norm_ (a' := ?_) ?_ ?_
                                    rotate_left
                                    · show Act.put _ (some 53) _ = _
                                      simp only [Act.put, List.setIfInBounds_toArray, List.set_cons_zero, List.set_cons_succ, i64_w, i32_w]
                                      rfl
                                    have h := hJ (W0.heap.size, (W0.alloc (.cells #[] 25)).heap.size) _ (j2_a W0 _)
                                    simp only [putAll, Act.put, List.setIfInBounds_toArray, List.set_cons_zero, List.set_cons_succ] at h
                                    exact h
                                  · skip
                                    refine value_ (w1 := W0.alloc (.cells #[.string (rd_T25 x11_1 t230).f0, .bool (rd_T25 x11_1 t230).f1.f0, .int .i64 (rd_T25 x11_1 t230).f1.f1, .string (rd_T25 x11_1 t230).f1.f2] 25)) (v := .slice (some ⟨W0.heap.size, 0, none⟩) 1 1) (by rfl) rfl (by go_simp) ?_
                                    refine hK.out _ _ (hSz _ (below_alloc (Below.refl _ _) _)) (fun hHeld => ?_)
                                    clear hK K
                                    refine norm_ (a' := ?_) ?_ ?_
                                    rotate_left
                                    · show Act.put _ (some 53) _ = _
                                      simp only [Act.put, List.setIfInBounds_toArray, List.set_cons_zero, List.set_cons_succ, i64_w, i32_w]
                                      rfl
                                    refine one_ (i := 0) (N := (some 48)) #[true, true, true, true, true, true, false, true, true, true, false, true, true, true, true, false, false] rfl rfl (by kernel_rfl) (by decide) (fun K hK => ?_)
                                    refine value_ (w1 := (W0.alloc (.cells #[.string (rd_T25 x11_1 t230).f0, .bool (rd_T25 x11_1 t230).f1.f0, .int .i64 (rd_T25 x11_1 t230).f1.f1, .string (rd_T25 x11_1 t230).f1.f2] 25)).alloc (.cells #[] 25)) (v := .slice (some ⟨(W0.alloc (.cells #[.string (rd_T25 x11_1 t230).f0, .bool (rd_T25 x11_1 t230).f1.f0, .int .i64 (rd_T25 x11_1 t230).f1.f1, .string (rd_T25 x11_1 t230).f1.f2] 25)).heap.size, 0, none⟩) 0 0) (by rfl) rfl (by go_simp) ?_
                                    refine hK.out _ _ (hSz _ (below_alloc (below_alloc (Below.refl _ _) _) _)) (fun hHeld => ?_)
                                    clear hK K
                                    refine norm_ (a' := ?_) ?_ ?_
                                    rotate_left
                                    · show Act.put _ (some 48) _ = _
                                      simp only [Act.put, List.setIfInBounds_toArray, List.set_cons_zero, List.set_cons_succ, i64_w, i32_w]
                                      rfl
                                    have h := hJ ((W0.alloc (.cells #[.string (rd_T25 x11_1 t230).f0, .bool (rd_T25 x11_1 t230).f1.f0, .int .i64 (rd_T25 x11_1 t230).f1.f1, .string (rd_T25 x11_1 t230).f1.f2] 25)).heap.size, W0.heap.size) _ (j2_b W0 _)
                                    simp only [putAll, Act.put, List.setIfInBounds_toArray, List.set_cons_zero, List.set_cons_succ] at h
                                    exact h
                                rintro ⟨g48, g53⟩ W1 hJ2
                                refine norm_ (a' := ?_) ?_ ?_
                                rotate_left
                                · simp only [putAll, Act.put, List.setIfInBounds_toArray, List.set_cons_zero, List.set_cons_succ]
                                  rfl
                                replace hJ2 : J2 W0 #[.string (rd_T25 x11_1 t230).f0, .bool (rd_T25 x11_1 t230).f1.f0, .int .i64 (rd_T25 x11_1 t230).f1.f1, .string (rd_T25 x11_1 t230).f1.f2] g48 g53 W1 := hJ2
                                refine one_ (i := 6) (N := (some 54)) #[true, true, true, true, true, true, true, true, true, true, false, true, true, true, true, false, false] rfl rfl (by kernel_rfl) (by decide) (fun K hK => ?_)
                                obtain ⟨v54, W2, hrun, hrow, hbel, hfr⟩ := j2_app (x := rd_T25 x11_1 t230) hJ2 hbase
                                refine step_app25 (by rfl) rfl (.tmp 48) (.tmp 53) rfl rfl (by rfl) (by rfl) hrun ?_
                                refine hK.out _ _ (hSz _ (hbel)) (fun hHeld => ?_)
                                clear hK K
                                refine norm_ (a' := ?_) ?_ ?_
                                rotate_left
                                · show Act.put _ (some 54) _ = _
                                  simp only [Act.put, List.setIfInBounds_toArray, List.set_cons_zero, List.set_cons_succ, i64_w, i32_w]
                                  rfl
                                clear hrun hJ2
                                replace hrow : Own25 W2 wq.heap.size v54 y235 := (by rw [Ny235.out, Ny231.out]; exact hrow)
                                refine one_ (i := 10) (N := (some 58)) #[true, true, true, true, true, true, true, true, true, true, true, true, true, true, true, false, false] rfl rfl (by kernel_rfl) (by decide) (fun K hK => ?_)
                                obtain ⟨v58, W3, hrun, hrow3, hbel3, hfr3⟩ := jr_more (c := co32) hrow hbel hfr HR36.out hbase (by have := LMc27.out; omega)
                                refine step_app25 (by rfl) rfl (.tmp 54) (.tmp 57) rfl rfl (by rfl) (by rfl) hrun ?_
                                refine hK.out _ _ (hSz _ (hbel3)) (fun hHeld => ?_)
                                clear hK K
                                refine norm_ (a' := ?_) ?_ ?_
                                rotate_left
                                · show Act.put _ (some 58) _ = _
                                  simp only [Act.put, List.setIfInBounds_toArray, List.set_cons_zero, List.set_cons_succ, i64_w, i32_w]
                                  rfl
                                clear hrun hrow hbel hfr
                                rw [← Ny242.out] at hrow3
                                refine one_ (i := 15) (N := (some 63)) #[true, true, true, true, true, true, true, true, true, true, true, true, true, true, true, true, false] rfl rfl (by kernel_rfl) (by decide) (fun K hK => ?_)
                                obtain ⟨v63, W4, hrun, hrow4, hbel4, hfr4⟩ := jr_more (c := c38) hrow3 hbel3 hfr3 HR38.out hbase (by have := LMc31.out; omega)
                                refine step_app25 (by rfl) rfl (.tmp 58) (.tmp 62) rfl rfl (by rfl) (by rfl) hrun ?_
                                refine hK.out _ _ (hSz _ (hbel4)) (fun hHeld => ?_)
                                clear hK K
                                refine norm_ (a' := ?_) ?_ ?_
                                rotate_left
                                · show Act.put _ (some 63) _ = _
                                  simp only [Act.put, List.setIfInBounds_toArray, List.set_cons_zero, List.set_cons_succ, i64_w, i32_w]
                                  rfl
                                clear hrun hrow3 hbel3 hfr3
                                rw [← Ny249.out] at hrow4
                                refine pure_ (i := 16) (N := (some 11)) (v := ?_) (a' := ?_) #[true, true, true, true, true, true, true, true, true, true, true, true, true, true, true, true, true] rfl rfl (by kernel_rfl) (fun _ _ _ h => h) (Or.inl ⟨by rfl, ?_⟩) ?_ ?_
                                rotate_left
                                · intro w'
                                  go_simp
                                  with_reducible rfl
                                rotate_left
                                · simp only [Act.put, List.setIfInBounds_toArray, List.set_cons_zero, List.set_cons_succ, i64_w, i32_w]
                                  rfl
                                refine done_ (by kernel_rfl) ?_
                                have ho := R_of_flat hrow4
                                have hb := below_step hW0 hbel4
                                clear hrow4 hbel4 hfr4 hHeld hSz hW0 hbase
                                have n0_ := Aside0.mk (Kd.R_elder' HO_9.out (Kd.R_base ho) hb)
                                have n1_ := Aside0.mk (Kd.R_elder' HO_10.out (Kd.R_base ho) hb)
                                have n2_ := Aside0.mk (Kd.R_elder' HO_11.out (Kd.R_base ho) hb)
                                have n3_ := Aside0.mk (Kd.R_lower (Kd.R_mono (ok' := fun k_ => some k_ ≠ (.slice Ao17 t217.length co17 : Value).ownBlock ∧ some k_ ≠ (v221 : Value).ownBlock ∧ some k_ ≠ (.slice (some ad234) x11_1.length co32 : Value).ownBlock) (Kd.R_new' (Kd.R_new' (Kd.R_new' ho (Kd.R_lt HO_9.out)) (Kd.R_lt HO_10.out)) (Kd.R_lt HO_11.out)) (fun _ hk => ⟨hk.1.1.2, ⟨hk.1.2, hk.2⟩⟩)) HB.out.size)
                                have n4_ := Aside0.mk (blk_below (g := gb215) (o := .cells #[.slice A0_0 l0_0.length c0_0, .slice A0_1 l0_1.length c0_1] 35 (0, 0)) BK215.out hb)
                                have n5_ := Aside0.mk (blk_below (g := gb216) (o := .cells #[.slice A1_0 l1_0.length c1_0, .slice A1_1 l1_1.length c1_1] 35 (0, 0)) BK216.out hb)
                                have n6_ := Aside0.mk (below_step HB.out hb)
                                clear HO_9 HO_10 HO_11 BK215 BK216 HB ho hb
                                have HO_9 := n0_
                                have HO_10 := n1_
                                have HO_11 := n2_
                                have HO251 := n3_
                                have BK215 := n4_
                                have BK216 := n5_
                                have HB := n6_
                                clear n0_ n1_ n2_ n3_ n4_ n5_ n6_
                                go_wp2
                                go_roundg k1
                                case measure => have := HK1.out; omega
                                case rel => exact ⟨(y249), (wrap64 (x12_1 + 1)), (by first | rfl | (simp; done) | (simp [*]; done)), H', ⟨by have := HK1.out; omega⟩, ⟨by (with_reducible repeat (first | apply Kd.R_alloc | apply Kd.R_drewN | apply Kd.R_drew)); exact Kd.R_mono HO_9.out (fun _ hk => ⟨hk.1.1, hk.2⟩)⟩, ⟨by (with_reducible repeat (first | apply Kd.R_alloc | apply Kd.R_drewN | apply Kd.R_drew)); exact Kd.R_mono HO_10.out (fun _ hk => ⟨hk.1.1, hk.2⟩)⟩, ⟨by (with_reducible repeat (first | apply Kd.R_alloc | apply Kd.R_drewN | apply Kd.R_drew)); exact Kd.R_mono HO251.out (fun _ hk => ⟨hk.1, hk.2.1⟩)⟩, ⟨by (with_reducible repeat (first | refine blk_drewN ?_ _ | refine blk_drew ?_ | refine blk_alloc ?_ _)); exact BK215.out⟩, ⟨by (with_reducible repeat (first | refine blk_drewN ?_ _ | refine blk_drew ?_ | refine blk_alloc ?_ _)); exact BK216.out⟩, ⟨by repeat (first | (with_reducible first | exact HB.out | apply below_alloc | apply pw_below_drewN | apply below_drew1 | refine below_set ?_ GE215.out | refine below_set ?_ GE216.out) | exact HB.out)⟩⟩
                              · rw [if_neg c31] at H
                                exact absurd H (by simp)
                            · rw [if_neg c30] at H
                              exact absurd H (by simp)
                          · rw [if_neg c29] at H
                            exact absurd H (by simp)
                        · rw [if_neg c27] at H
                          exact absurd H (by simp)
                      · rw [if_neg c26] at H
                        exact absurd H (by simp)
                    · rw [if_neg c24] at H
                      exact absurd H (by simp)
                  · rw [if_neg c23] at H
                    exact absurd H (by simp)
                · rw [if_neg c22] at H
                  exact absurd H (by simp)
              · rw [if_neg c20] at H
                exact absurd H (by simp)
            · rw [if_neg c19] at H
              have c19b0 : decide (1 < (x11_1.length : Int)) = false := decide_eq_false c19
              have c19b1 : decide (1 < x11_1.length) = false := decide_eq_false (by omega)
              clear c19
              have H' := Aside0.mk H
              clear H
              obtain ⟨Ao40, co40, eo40⟩ := Kd.R_slice HO_11.out
              subst eo40
              go_wp2
              go_meet
              case rel => exact ⟨_, (x11_1), H', ⟨by have := HK1.out; first | omega | exact Nat.le_refl _⟩, ⟨by (with_reducible repeat (first | apply Kd.R_alloc | apply Kd.R_drewN | apply Kd.R_drew)); exact HO_9.out⟩, ⟨by (with_reducible repeat (first | apply Kd.R_alloc | apply Kd.R_drewN | apply Kd.R_drew)); exact HO_10.out⟩, ⟨by (with_reducible repeat (first | apply Kd.R_alloc | apply Kd.R_drewN | apply Kd.R_drew)); exact HO_11.out⟩, ⟨by (with_reducible repeat (first | refine blk_drewN ?_ _ | refine blk_drew ?_ | refine blk_alloc ?_ _)); exact BK215.out⟩, ⟨by (with_reducible repeat (first | refine blk_drewN ?_ _ | refine blk_drew ?_ | refine blk_alloc ?_ _)); exact BK216.out⟩, ⟨by repeat (first | (with_reducible first | exact HB.out | apply below_alloc | apply pw_below_drewN | apply below_drew1 | refine below_set ?_ GE215.out | refine below_set ?_ GE216.out) | exact HB.out)⟩⟩
          · rw [if_neg c18] at H
            have c18b0 : decide (x12_1 < (l2.length : Int)) = false := decide_eq_false c18
            clear c18
            (first | rw [c18b0] | (simp only [i64_w, i32_w]; rw [c18b0]) | skip)
            have H' := Aside0.mk H
            clear H
            go_wp2
            go_meet
            case rel => exact ⟨_, (x11_1), H', ⟨by have := HK1.out; first | omega | exact Nat.le_refl _⟩, ⟨by (with_reducible repeat (first | apply Kd.R_alloc | apply Kd.R_drewN | apply Kd.R_drew)); exact HO_9.out⟩, ⟨by (with_reducible repeat (first | apply Kd.R_alloc | apply Kd.R_drewN | apply Kd.R_drew)); exact HO_10.out⟩, ⟨by (with_reducible repeat (first | apply Kd.R_alloc | apply Kd.R_drewN | apply Kd.R_drew)); exact HO_11.out⟩, ⟨by (with_reducible repeat (first | refine blk_drewN ?_ _ | refine blk_drew ?_ | refine blk_alloc ?_ _)); exact BK215.out⟩, ⟨by (with_reducible repeat (first | refine blk_drewN ?_ _ | refine blk_drew ?_ | refine blk_alloc ?_ _)); exact BK216.out⟩, ⟨by repeat (first | (with_reducible first | exact HB.out | apply below_alloc | apply pw_below_drewN | apply below_drew1 | refine below_set ?_ GE215.out | refine below_set ?_ GE216.out) | exact HB.out)⟩⟩
    case rest =>
      clear HC8
      try clear c1
      try clear c2
      try clear p2
      try clear q2
      try clear hx2
      try clear c3
      try clear q3
      try clear c6
      try clear p6
      try clear c7
      try clear c12
      try clear c13
      try clear c18
      try clear c18b0
      try clear c19
      try clear c19b0
      try clear c19b1
      try clear c20
      try clear c20b0
      try clear c22
      try clear c22b0
      try clear p22
      try clear q22
      try clear hx22
      try clear c23
      try clear c23b0
      try clear p23
      try clear q23
      try clear hx23
      try clear c24
      try clear c25
      try clear c25b0
      try clear c26
      try clear c26b0
      try clear c26b1
      try clear c27
      try clear c29
      try clear c29b0
      try clear c29b1
      try clear c30
      try clear c30b0
      try clear c30b1
      try clear c31
      try clear q36
      try clear c38
      try clear q38
      try clear hx229_0
      try clear hx234_0
      try clear hx234_1
      try clear hx234_2
      try clear hx234_3
      try clear p2
      try clear p229
      try clear p234
      try clear q038
      try clear q229
      try clear q234
      try clear q36
      try clear q38
      obtain ⟨kq, x11_7, HA, HJ7, HO_9, HO_10, HO_11, BK215, BK216, HB⟩ := hcut
      cases kq with
      | zero => exact absurd HA.out (by simp [broadsidelaw3_TuplePuts.j1])
      | succ kj7 =>
        have H := HA.out
        clear HA
        simp only [broadsidelaw3_TuplePuts.j1] at H
        have H' := Aside0.mk H
        clear H
        obtain ⟨Ao41, co41, eo41⟩ := Kd.R_slice HO_11.out
        subst eo41
        go_wp2
        go_loopg [14, 66] kj7 (fun kq v14 v66 w' => ∃ (x14_2 : List (S25)) (x66_2 : Int), v66 = .int .i64 x66_2 ∧ Aside0 (broadsidelaw3_TuplePuts.l1 kq a3 t217 t220 x14_2 x11_7 (x11_7.length : Int) x66_2 = some r) ∧ Aside0 (kq ≤ kj7) ∧ Aside0 (Kd.R k25 25 w' w.heap.size (fun k_ => some k_ ≠ (v221 : Value).ownBlock ∧ some k_ ≠ (v14 : Value).ownBlock ∧ some k_ ≠ ((.slice Ao41 x11_7.length co41) : Value).ownBlock) (.slice Ao17 t217.length co17) t217) ∧ Aside0 (Kd.R k25 25 w' w.heap.size (fun k_ => some k_ ≠ ((.slice Ao17 t217.length co17) : Value).ownBlock ∧ some k_ ≠ (v14 : Value).ownBlock ∧ some k_ ≠ ((.slice Ao41 x11_7.length co41) : Value).ownBlock) v221 t220) ∧ Aside0 (Kd.R k25 25 w' w.heap.size (fun k_ => some k_ ≠ ((.slice Ao17 t217.length co17) : Value).ownBlock ∧ some k_ ≠ (v221 : Value).ownBlock ∧ some k_ ≠ ((.slice Ao41 x11_7.length co41) : Value).ownBlock) v14 x14_2) ∧ Aside0 (Kd.R k25 25 w' w.heap.size (fun k_ => some k_ ≠ ((.slice Ao17 t217.length co17) : Value).ownBlock ∧ some k_ ≠ (v221 : Value).ownBlock ∧ some k_ ≠ (v14 : Value).ownBlock) (.slice Ao41 x11_7.length co41) x11_7) ∧ Aside0 (w'.heap[gb215]? = some (.cells #[(.slice A0_0 l0_0.length c0_0), (.slice A0_1 l0_1.length c0_1)] 35 (0, 0))) ∧ Aside0 (w'.heap[gb216]? = some (.cells #[(.slice A1_0 l1_0.length c1_0), (.slice A1_1 l1_1.length c1_1)] 35 (0, 0))) ∧ Aside0 (Below w.heap.size w w'))
        case atStart => exact ⟨(([] : List (S25))), (0), (by first | rfl | (simp; done) | (simp [*]; done)), H', ⟨Nat.le_refl _⟩, ⟨by (with_reducible repeat (first | apply Kd.R_alloc | apply Kd.R_drewN | apply Kd.R_drew)); exact Kd.R_mono HO_9.out (fun _ hk => ⟨hk.1, ⟨(by simp [Value.ownBlock]), hk.2⟩⟩)⟩, ⟨by (with_reducible repeat (first | apply Kd.R_alloc | apply Kd.R_drewN | apply Kd.R_drew)); exact Kd.R_mono HO_10.out (fun _ hk => ⟨hk.1, ⟨(by simp [Value.ownBlock]), hk.2⟩⟩)⟩, ⟨by first | exact Kd.R_nil _ _ _ _ _ | exact Kd.N_nil _ _ _ _ _ | exact Kd.V_nil _ _ _ _ _ | exact Kd.Q_nil _ _ _ _ _ | exact Kd.S_nil _ _ _ _ _⟩, ⟨by (with_reducible repeat (first | apply Kd.R_alloc | apply Kd.R_drewN | apply Kd.R_drew)); exact Kd.R_mono HO_11.out (fun _ hk => ⟨hk.1, ⟨hk.2, (by simp [Value.ownBlock])⟩⟩)⟩, ⟨by (with_reducible repeat (first | refine blk_drewN ?_ _ | refine blk_drew ?_ | refine blk_alloc ?_ _)); exact BK215.out⟩, ⟨by (with_reducible repeat (first | refine blk_drewN ?_ _ | refine blk_drew ?_ | refine blk_alloc ?_ _)); exact BK216.out⟩, ⟨by repeat (first | (with_reducible first | exact HB.out | apply below_alloc | apply pw_below_drewN | apply below_drew1 | refine below_set ?_ GE215.out | refine below_set ?_ GE216.out) | exact HB.out)⟩⟩
        case round =>
          clear H'
          try clear c1
          try clear c2
          try clear p2
          try clear q2
          try clear hx2
          try clear c3
          try clear q3
          try clear c6
          try clear p6
          try clear c7
          try clear c12
          try clear c13
          try clear c18
          try clear c18b0
          try clear c19
          try clear c19b0
          try clear c19b1
          try clear c20
          try clear c20b0
          try clear c22
          try clear c22b0
          try clear p22
          try clear q22
          try clear hx22
          try clear c23
          try clear c23b0
          try clear p23
          try clear q23
          try clear hx23
          try clear c24
          try clear c25
          try clear c25b0
          try clear c26
          try clear c26b0
          try clear c26b1
          try clear c27
          try clear c29
          try clear c29b0
          try clear c29b1
          try clear c30
          try clear c30b0
          try clear c30b1
          try clear c31
          try clear q36
          try clear c38
          try clear q38
          try clear hx229_0
          try clear hx234_0
          try clear hx234_1
          try clear hx234_2
          try clear hx234_3
          try clear p2
          try clear p22
          try clear p229
          try clear p23
          try clear p234
          try clear p6
          try clear q038
          try clear q2
          try clear q22
          try clear q229
          try clear q23
          try clear q234
          try clear q3
          try clear q36
          try clear q38
          obtain ⟨x14_2, x66_2, rfl, HA, HK2, HO_9, HO_10, HO_14, HO_64, BK215, BK216, HB⟩ := hrel
          cases gk with
          | zero => exact absurd HA.out (by simp [broadsidelaw3_TuplePuts.l1])
          | succ k2 =>
            have H := HA.out
            clear HA
            simp only [broadsidelaw3_TuplePuts.l1] at H
            by_cases c42 : x66_2 < (x11_7.length : Int)
            · rw [if_pos c42] at H
              have c42b0 : decide (x66_2 < (x11_7.length : Int)) = true := decide_eq_true c42
              clear c42
              by_cases c43 : 0 ≤ x66_2
              · rw [if_pos c43] at H
                have c43b0 : decide (0 ≤ x66_2) = true := decide_eq_true c43
                clear c43
                by_cases c44 : x66_2 < (x11_7.length : Int)
                · rw [if_pos c44] at H
                  have c44b0 : decide (x66_2 < (x11_7.length : Int)) = true := decide_eq_true c44
                  clear c44
                  replace H := Option.bind_eq_some_iff.mp H
                  obtain ⟨t254, A450, H⟩ := H
                  replace H : (broadsidelaw3_TuplePuts.l1 k2 a3 t217 t220 t254 x11_7 (x11_7.length : Int) (wrap64 (x66_2 + 1))) = some r := H
                  have A45 := Aside0.mk A450
                  clear A450
                  have H' := Aside0.mk H
                  clear H
                  have p252 : 0 ≤ (x66_2 : Int) := of_decide_eq_true (by first | (with_reducible assumption) | assumption)
                  have q252 : x66_2 < (x11_7.length : Int) := of_decide_eq_true (by first | (with_reducible assumption) | assumption)
                  obtain ⟨ad252, e252, hx252_0, hx252_1, hx252_2, hx252_3⟩ := at_T25 (Kd.R_reads' HO_64.out).2.2 x66_2 p252 q252
                  cases e252
                  replace p252 := eq_true p252
                  replace q252 := eq_true q252
                  go_wp2_with (first | ((with_reducible refine gate_dst (N := 16) rfl ?_); (try (refine gate_guard (by rfl) ?_; dsimp only)); refine box_event ?hg (N := 16) ?hd (cs := #[.string (⟨#[]⟩ : ByteArray), .bool false, .int .i64 0, .string (⟨#[]⟩ : ByteArray)]) (t := 25) ?hr ?_; (case hd => rfl); (case hg => rfl); (case hr => first | (go_simp; done) | (go_simp; rfl)); intro gb253 hg w46 hbox hb; have n0_ := Aside0.mk (Kd.R_below (Kd.R_elderB (by (with_reducible repeat (first | apply Kd.R_alloc | apply Kd.R_drewN | apply Kd.R_drew)); exact HO_9.out) gb253 (Nat.le_of_eq hg.symm)) hb); have n1_ := Aside0.mk (Kd.R_below (Kd.R_elderB (by (with_reducible repeat (first | apply Kd.R_alloc | apply Kd.R_drewN | apply Kd.R_drew)); exact HO_10.out) gb253 (Nat.le_of_eq hg.symm)) hb); have n2_ := Aside0.mk (Kd.R_below (Kd.R_elderB (by (with_reducible repeat (first | apply Kd.R_alloc | apply Kd.R_drewN | apply Kd.R_drew)); exact HO_14.out) gb253 (Nat.le_of_eq hg.symm)) hb); have n3_ := Aside0.mk (Kd.R_below (Kd.R_elderB (by (with_reducible repeat (first | apply Kd.R_alloc | apply Kd.R_drewN | apply Kd.R_drew)); exact HO_64.out) gb253 (Nat.le_of_eq hg.symm)) hb); have n4_ := Aside0.mk (blk_below (g := gb215) (o := .cells #[.slice A0_0 l0_0.length c0_0, .slice A0_1 l0_1.length c0_1] 35 (0, 0)) (by (with_reducible repeat (first | refine blk_drewN ?_ _ | refine blk_drew ?_ | refine blk_alloc ?_ _)); exact BK215.out) hb); have n5_ := Aside0.mk (blk_below (g := gb216) (o := .cells #[.slice A1_0 l1_0.length c1_0, .slice A1_1 l1_1.length c1_1] 35 (0, 0)) (by (with_reducible repeat (first | refine blk_drewN ?_ _ | refine blk_drew ?_ | refine blk_alloc ?_ _)); exact BK216.out) hb); have n6_ := Aside0.mk (below_step (by repeat (first | (with_reducible first | exact HB.out | apply below_alloc | apply pw_below_drewN | apply below_drew1 | refine below_set ?_ GE215.out | refine below_set ?_ GE216.out) | exact HB.out)) hb); have n7_ := Aside0.mk (hbox); have n8_ := Aside0.mk ((by rw [hg]; exact (below_size (by repeat (first | (with_reducible first | exact HB.out | apply below_alloc | apply pw_below_drewN | apply below_drew1 | refine below_set ?_ GE215.out | refine below_set ?_ GE216.out) | exact HB.out))) : w.heap.size ≤ gb253)); have n9_ := Aside0.mk ((by rw [hg]; exact (below_size (by repeat (first | (with_reducible first | exact HB.out | apply below_alloc | apply pw_below_drewN | apply below_drew1 | refine below_set ?_ GE215.out | refine below_set ?_ GE216.out) | exact HB.out))) : w.heap.size ≤ gb253)); have n10_ := Aside0.mk ((by rw [hg]; exact Nat.ne_of_lt (blk_lt (g := gb215) (o := .cells #[.slice A0_0 l0_0.length c0_0, .slice A0_1 l0_1.length c0_1] 35 (0, 0)) (by (with_reducible repeat (first | refine blk_drewN ?_ _ | refine blk_drew ?_ | refine blk_alloc ?_ _)); exact BK215.out)) : gb215 ≠ gb253)); have n11_ := Aside0.mk ((by rw [hg]; exact Nat.ne_of_gt (blk_lt (g := gb215) (o := .cells #[.slice A0_0 l0_0.length c0_0, .slice A0_1 l0_1.length c0_1] 35 (0, 0)) (by (with_reducible repeat (first | refine blk_drewN ?_ _ | refine blk_drew ?_ | refine blk_alloc ?_ _)); exact BK215.out)) : gb253 ≠ gb215)); have n12_ := Aside0.mk ((by rw [hg]; exact Nat.ne_of_lt (blk_lt (g := gb216) (o := .cells #[.slice A1_0 l1_0.length c1_0, .slice A1_1 l1_1.length c1_1] 35 (0, 0)) (by (with_reducible repeat (first | refine blk_drewN ?_ _ | refine blk_drew ?_ | refine blk_alloc ?_ _)); exact BK216.out)) : gb216 ≠ gb253)); have n13_ := Aside0.mk ((by rw [hg]; exact Nat.ne_of_gt (blk_lt (g := gb216) (o := .cells #[.slice A1_0 l1_0.length c1_0, .slice A1_1 l1_1.length c1_1] 35 (0, 0)) (by (with_reducible repeat (first | refine blk_drewN ?_ _ | refine blk_drew ?_ | refine blk_alloc ?_ _)); exact BK216.out)) : gb253 ≠ gb216)); clear HO_9; clear HO_10; clear HO_14; clear HO_64; clear BK215; clear BK216; clear HB; have HO_9 := n0_; have HO_10 := n1_; have HO_14 := n2_; have HO_64 := n3_; have BK215 := n4_; have BK216 := n5_; have HB := n6_; have BK253 := n7_; have GW253 := n8_; have GE253 := n9_; have NB215_253 := n10_; have NB253_215 := n11_; have NB216_253 := n12_; have NB253_216 := n13_; clear n0_ n1_ n2_ n3_ n4_ n5_ n6_ n7_ n8_ n9_ n10_ n11_ n12_ n13_; clear hb hbox hg; have hnb47 := NB253_215.out; have hnc47 := NB215_253.out; have hnb48 := NB253_216.out; have hnc48 := NB216_253.out; have hcz49_0 : w46.cell? ⟨gb253, 0, none⟩ = some (.string (⟨#[]⟩ : ByteArray)) := (blk_cell BK253.out 0).trans rfl; have hcz49_1 : w46.cell? ⟨gb253, 1, none⟩ = some (.bool false) := (blk_cell BK253.out 1).trans rfl; have hcz49_2 : w46.cell? ⟨gb253, 2, none⟩ = some (.int .i64 0) := (blk_cell BK253.out 2).trans rfl; have hcz49_3 : w46.cell? ⟨gb253, 3, none⟩ = some (.string (⟨#[]⟩ : ByteArray)) := (blk_cell BK253.out 3).trans rfl; have hfz49_0 := blk_frozen BK253.out 0; have hfz49_1 := blk_frozen BK253.out 1; have hfz49_2 := blk_frozen BK253.out 2; have hfz49_3 := blk_frozen BK253.out 3; obtain ⟨Ao50, co50, eo50⟩ := Kd.R_slice HO_14.out; subst eo50) | ((with_reducible refine gate_callee (f := 10) rfl ?_); refine goesL_ (some 75) rfl rfl Tryz.func10 (by kernel_rfl) rfl #[.slice Ao50 x14_2.length co50, .string ((rd_T25 x11_7 x66_2).f0), .agg #[.bool ((rd_T25 x11_7 x66_2).f1.f0), .int .i64 ((rd_T25 x11_7 x66_2).f1.f1), .string ((rd_T25 x11_7 x66_2).f1.f2)]] rfl (by (try simp only [List.map_toArray, List.map_cons, List.map_nil]); first | done | rfl | (simp only [List.length_drop, List.length_take]; rfl)) ?_; (with_reducible refine (tuple_Put.calls _ _ x14_2 ((rd_T25 x11_7 x66_2).f0) ((rd_T25 x11_7 x66_2).f1.f0) ((rd_T25 x11_7 x66_2).f1.f1) ((rd_T25 x11_7 x66_2).f1.f2) t254 _ ?side1 ?side2 A45.out).mono ?_); (case side1 => refine (Kd.R_reads' (e := 25) (base := w.heap.size) (ok := fun k_ => ((some k_ ≠ (.slice Ao17 t217.length co17 : Value).ownBlock ∧ (some k_ ≠ (v221 : Value).ownBlock ∧ some k_ ≠ (.slice (some ad252) x11_7.length co41 : Value).ownBlock)) ∧ k_ ≠ gb253)) (n := x14_2.length) (c := co50) ?_).2.2; exact (by (with_reducible repeat (first | apply Kd.R_alloc | apply Kd.R_drewN | apply Kd.R_drew)); exact (Kd.R_mono (Kd.R_far (p := ⟨gb253, 3, none⟩) (Kd.R_far (p := ⟨gb253, 2, none⟩) (Kd.R_far (p := ⟨gb253, 1, none⟩) (Kd.R_far (p := ⟨gb253, 0, none⟩) (Kd.R_mono HO_14.out (fun k_ hk => (⟨hk, hk.2⟩ : _ ∧ k_ ≠ gb253))) (fun _ hk => hk.2) (.string ((rd_T25 x11_7 x66_2).f0))) (fun _ hk => hk.2) (.bool ((rd_T25 x11_7 x66_2).f1.f0))) (fun _ hk => hk.2) (.int .i64 ((rd_T25 x11_7 x66_2).f1.f1))) (fun _ hk => hk.2) (.string ((rd_T25 x11_7 x66_2).f1.f2))) (fun _ h_ => h_.1)))); (case side2 => exact (Kd.R_reads' HO_14.out).2.1); rintro e w51 ⟨v255, rfl, ho0, hb⟩; refine ⟨_, rfl, ?_⟩; have n0_ := Aside0.mk (Kd.R_elder' (by (with_reducible repeat (first | apply Kd.R_alloc | apply Kd.R_drewN | apply Kd.R_drew)); exact (Kd.R_mono (Kd.R_far (p := ⟨gb253, 3, none⟩) (Kd.R_far (p := ⟨gb253, 2, none⟩) (Kd.R_far (p := ⟨gb253, 1, none⟩) (Kd.R_far (p := ⟨gb253, 0, none⟩) (Kd.R_mono HO_9.out (fun k_ hk => (⟨hk, hk.2⟩ : _ ∧ k_ ≠ gb253))) (fun _ hk => hk.2) (.string ((rd_T25 x11_7 x66_2).f0))) (fun _ hk => hk.2) (.bool ((rd_T25 x11_7 x66_2).f1.f0))) (fun _ hk => hk.2) (.int .i64 ((rd_T25 x11_7 x66_2).f1.f1))) (fun _ hk => hk.2) (.string ((rd_T25 x11_7 x66_2).f1.f2))) (fun _ h_ => h_.1))) (Kd.R_base ho0) hb); have n1_ := Aside0.mk (Kd.R_elder' (by (with_reducible repeat (first | apply Kd.R_alloc | apply Kd.R_drewN | apply Kd.R_drew)); exact (Kd.R_mono (Kd.R_far (p := ⟨gb253, 3, none⟩) (Kd.R_far (p := ⟨gb253, 2, none⟩) (Kd.R_far (p := ⟨gb253, 1, none⟩) (Kd.R_far (p := ⟨gb253, 0, none⟩) (Kd.R_mono HO_10.out (fun k_ hk => (⟨hk, hk.2⟩ : _ ∧ k_ ≠ gb253))) (fun _ hk => hk.2) (.string ((rd_T25 x11_7 x66_2).f0))) (fun _ hk => hk.2) (.bool ((rd_T25 x11_7 x66_2).f1.f0))) (fun _ hk => hk.2) (.int .i64 ((rd_T25 x11_7 x66_2).f1.f1))) (fun _ hk => hk.2) (.string ((rd_T25 x11_7 x66_2).f1.f2))) (fun _ h_ => h_.1))) (Kd.R_base ho0) hb); have n2_ := Aside0.mk (Kd.R_elder' (by (with_reducible repeat (first | apply Kd.R_alloc | apply Kd.R_drewN | apply Kd.R_drew)); exact (Kd.R_mono (Kd.R_far (p := ⟨gb253, 3, none⟩) (Kd.R_far (p := ⟨gb253, 2, none⟩) (Kd.R_far (p := ⟨gb253, 1, none⟩) (Kd.R_far (p := ⟨gb253, 0, none⟩) (Kd.R_mono HO_14.out (fun k_ hk => (⟨hk, hk.2⟩ : _ ∧ k_ ≠ gb253))) (fun _ hk => hk.2) (.string ((rd_T25 x11_7 x66_2).f0))) (fun _ hk => hk.2) (.bool ((rd_T25 x11_7 x66_2).f1.f0))) (fun _ hk => hk.2) (.int .i64 ((rd_T25 x11_7 x66_2).f1.f1))) (fun _ hk => hk.2) (.string ((rd_T25 x11_7 x66_2).f1.f2))) (fun _ h_ => h_.1))) (Kd.R_base ho0) hb); have n3_ := Aside0.mk (Kd.R_elder' (by (with_reducible repeat (first | apply Kd.R_alloc | apply Kd.R_drewN | apply Kd.R_drew)); exact (Kd.R_mono (Kd.R_far (p := ⟨gb253, 3, none⟩) (Kd.R_far (p := ⟨gb253, 2, none⟩) (Kd.R_far (p := ⟨gb253, 1, none⟩) (Kd.R_far (p := ⟨gb253, 0, none⟩) (Kd.R_mono HO_64.out (fun k_ hk => (⟨hk, hk.2⟩ : _ ∧ k_ ≠ gb253))) (fun _ hk => hk.2) (.string ((rd_T25 x11_7 x66_2).f0))) (fun _ hk => hk.2) (.bool ((rd_T25 x11_7 x66_2).f1.f0))) (fun _ hk => hk.2) (.int .i64 ((rd_T25 x11_7 x66_2).f1.f1))) (fun _ hk => hk.2) (.string ((rd_T25 x11_7 x66_2).f1.f2))) (fun _ h_ => h_.1))) (Kd.R_base ho0) hb); have n4_ := Aside0.mk (Kd.R_lower (Kd.R_newB (Kd.R_new' (Kd.R_new' (Kd.R_new' (Kd.R_new' ho0 (Kd.R_lt (by (with_reducible repeat (first | apply Kd.R_alloc | apply Kd.R_drewN | apply Kd.R_drew)); exact (Kd.R_mono (Kd.R_far (p := ⟨gb253, 3, none⟩) (Kd.R_far (p := ⟨gb253, 2, none⟩) (Kd.R_far (p := ⟨gb253, 1, none⟩) (Kd.R_far (p := ⟨gb253, 0, none⟩) (Kd.R_mono HO_9.out (fun k_ hk => (⟨hk, hk.2⟩ : _ ∧ k_ ≠ gb253))) (fun _ hk => hk.2) (.string ((rd_T25 x11_7 x66_2).f0))) (fun _ hk => hk.2) (.bool ((rd_T25 x11_7 x66_2).f1.f0))) (fun _ hk => hk.2) (.int .i64 ((rd_T25 x11_7 x66_2).f1.f1))) (fun _ hk => hk.2) (.string ((rd_T25 x11_7 x66_2).f1.f2))) (fun _ h_ => h_.1))))) (Kd.R_lt (by (with_reducible repeat (first | apply Kd.R_alloc | apply Kd.R_drewN | apply Kd.R_drew)); exact (Kd.R_mono (Kd.R_far (p := ⟨gb253, 3, none⟩) (Kd.R_far (p := ⟨gb253, 2, none⟩) (Kd.R_far (p := ⟨gb253, 1, none⟩) (Kd.R_far (p := ⟨gb253, 0, none⟩) (Kd.R_mono HO_10.out (fun k_ hk => (⟨hk, hk.2⟩ : _ ∧ k_ ≠ gb253))) (fun _ hk => hk.2) (.string ((rd_T25 x11_7 x66_2).f0))) (fun _ hk => hk.2) (.bool ((rd_T25 x11_7 x66_2).f1.f0))) (fun _ hk => hk.2) (.int .i64 ((rd_T25 x11_7 x66_2).f1.f1))) (fun _ hk => hk.2) (.string ((rd_T25 x11_7 x66_2).f1.f2))) (fun _ h_ => h_.1))))) (Kd.R_lt (by (with_reducible repeat (first | apply Kd.R_alloc | apply Kd.R_drewN | apply Kd.R_drew)); exact (Kd.R_mono (Kd.R_far (p := ⟨gb253, 3, none⟩) (Kd.R_far (p := ⟨gb253, 2, none⟩) (Kd.R_far (p := ⟨gb253, 1, none⟩) (Kd.R_far (p := ⟨gb253, 0, none⟩) (Kd.R_mono HO_14.out (fun k_ hk => (⟨hk, hk.2⟩ : _ ∧ k_ ≠ gb253))) (fun _ hk => hk.2) (.string ((rd_T25 x11_7 x66_2).f0))) (fun _ hk => hk.2) (.bool ((rd_T25 x11_7 x66_2).f1.f0))) (fun _ hk => hk.2) (.int .i64 ((rd_T25 x11_7 x66_2).f1.f1))) (fun _ hk => hk.2) (.string ((rd_T25 x11_7 x66_2).f1.f2))) (fun _ h_ => h_.1))))) (Kd.R_lt (by (with_reducible repeat (first | apply Kd.R_alloc | apply Kd.R_drewN | apply Kd.R_drew)); exact (Kd.R_mono (Kd.R_far (p := ⟨gb253, 3, none⟩) (Kd.R_far (p := ⟨gb253, 2, none⟩) (Kd.R_far (p := ⟨gb253, 1, none⟩) (Kd.R_far (p := ⟨gb253, 0, none⟩) (Kd.R_mono HO_64.out (fun k_ hk => (⟨hk, hk.2⟩ : _ ∧ k_ ≠ gb253))) (fun _ hk => hk.2) (.string ((rd_T25 x11_7 x66_2).f0))) (fun _ hk => hk.2) (.bool ((rd_T25 x11_7 x66_2).f1.f0))) (fun _ hk => hk.2) (.int .i64 ((rd_T25 x11_7 x66_2).f1.f1))) (fun _ hk => hk.2) (.string ((rd_T25 x11_7 x66_2).f1.f2))) (fun _ h_ => h_.1))))) (g := gb253) (o := .cells #[.string ((rd_T25 x11_7 x66_2).f0), .bool ((rd_T25 x11_7 x66_2).f1.f0), .int .i64 ((rd_T25 x11_7 x66_2).f1.f1), .string ((rd_T25 x11_7 x66_2).f1.f2)] 25 (0, 0)) (by (with_reducible repeat (first | refine blk_drewN ?_ _ | refine blk_drew ?_ | refine blk_alloc ?_ _)); refine blk_put (cs := #[.string ((rd_T25 x11_7 x66_2).f0), .bool ((rd_T25 x11_7 x66_2).f1.f0), .int .i64 ((rd_T25 x11_7 x66_2).f1.f1), .string (⟨#[]⟩ : ByteArray)]) ?_ 3 _ rfl; (with_reducible repeat (first | refine blk_drewN ?_ _ | refine blk_drew ?_ | refine blk_alloc ?_ _)); refine blk_put (cs := #[.string ((rd_T25 x11_7 x66_2).f0), .bool ((rd_T25 x11_7 x66_2).f1.f0), .int .i64 0, .string (⟨#[]⟩ : ByteArray)]) ?_ 2 _ rfl; (with_reducible repeat (first | refine blk_drewN ?_ _ | refine blk_drew ?_ | refine blk_alloc ?_ _)); refine blk_put (cs := #[.string ((rd_T25 x11_7 x66_2).f0), .bool false, .int .i64 0, .string (⟨#[]⟩ : ByteArray)]) ?_ 1 _ rfl; (with_reducible repeat (first | refine blk_drewN ?_ _ | refine blk_drew ?_ | refine blk_alloc ?_ _)); refine blk_put (cs := #[.string (⟨#[]⟩ : ByteArray), .bool false, .int .i64 0, .string (⟨#[]⟩ : ByteArray)]) ?_ 0 _ rfl; (with_reducible repeat (first | refine blk_drewN ?_ _ | refine blk_drew ?_ | refine blk_alloc ?_ _)); exact BK253.out)) (below_size (by repeat (first | (with_reducible first | exact HB.out | apply below_alloc | apply pw_below_drewN | apply below_drew1 | refine below_set ?_ GE215.out | refine below_set ?_ GE216.out | refine below_set ?_ GE253.out) | exact HB.out)))); have n5_ := Aside0.mk (blk_below (g := gb215) (o := .cells #[.slice A0_0 l0_0.length c0_0, .slice A0_1 l0_1.length c0_1] 35 (0, 0)) (by (with_reducible repeat (first | refine blk_drewN ?_ _ | refine blk_drew ?_ | refine blk_alloc ?_ _)); refine blk_far ?_ NB215_253.out _; (with_reducible repeat (first | refine blk_drewN ?_ _ | refine blk_drew ?_ | refine blk_alloc ?_ _)); refine blk_far ?_ NB215_253.out _; (with_reducible repeat (first | refine blk_drewN ?_ _ | refine blk_drew ?_ | refine blk_alloc ?_ _)); refine blk_far ?_ NB215_253.out _; (with_reducible repeat (first | refine blk_drewN ?_ _ | refine blk_drew ?_ | refine blk_alloc ?_ _)); refine blk_far ?_ NB215_253.out _; (with_reducible repeat (first | refine blk_drewN ?_ _ | refine blk_drew ?_ | refine blk_alloc ?_ _)); exact BK215.out) hb); have n6_ := Aside0.mk (blk_below (g := gb216) (o := .cells #[.slice A1_0 l1_0.length c1_0, .slice A1_1 l1_1.length c1_1] 35 (0, 0)) (by (with_reducible repeat (first | refine blk_drewN ?_ _ | refine blk_drew ?_ | refine blk_alloc ?_ _)); refine blk_far ?_ NB216_253.out _; (with_reducible repeat (first | refine blk_drewN ?_ _ | refine blk_drew ?_ | refine blk_alloc ?_ _)); refine blk_far ?_ NB216_253.out _; (with_reducible repeat (first | refine blk_drewN ?_ _ | refine blk_drew ?_ | refine blk_alloc ?_ _)); refine blk_far ?_ NB216_253.out _; (with_reducible repeat (first | refine blk_drewN ?_ _ | refine blk_drew ?_ | refine blk_alloc ?_ _)); refine blk_far ?_ NB216_253.out _; (with_reducible repeat (first | refine blk_drewN ?_ _ | refine blk_drew ?_ | refine blk_alloc ?_ _)); exact BK216.out) hb); have n7_ := Aside0.mk (blk_below (g := gb253) (o := .cells #[.string ((rd_T25 x11_7 x66_2).f0), .bool ((rd_T25 x11_7 x66_2).f1.f0), .int .i64 ((rd_T25 x11_7 x66_2).f1.f1), .string ((rd_T25 x11_7 x66_2).f1.f2)] 25 (0, 0)) (by (with_reducible repeat (first | refine blk_drewN ?_ _ | refine blk_drew ?_ | refine blk_alloc ?_ _)); refine blk_put (cs := #[.string ((rd_T25 x11_7 x66_2).f0), .bool ((rd_T25 x11_7 x66_2).f1.f0), .int .i64 ((rd_T25 x11_7 x66_2).f1.f1), .string (⟨#[]⟩ : ByteArray)]) ?_ 3 _ rfl; (with_reducible repeat (first | refine blk_drewN ?_ _ | refine blk_drew ?_ | refine blk_alloc ?_ _)); refine blk_put (cs := #[.string ((rd_T25 x11_7 x66_2).f0), .bool ((rd_T25 x11_7 x66_2).f1.f0), .int .i64 0, .string (⟨#[]⟩ : ByteArray)]) ?_ 2 _ rfl; (with_reducible repeat (first | refine blk_drewN ?_ _ | refine blk_drew ?_ | refine blk_alloc ?_ _)); refine blk_put (cs := #[.string ((rd_T25 x11_7 x66_2).f0), .bool false, .int .i64 0, .string (⟨#[]⟩ : ByteArray)]) ?_ 1 _ rfl; (with_reducible repeat (first | refine blk_drewN ?_ _ | refine blk_drew ?_ | refine blk_alloc ?_ _)); refine blk_put (cs := #[.string (⟨#[]⟩ : ByteArray), .bool false, .int .i64 0, .string (⟨#[]⟩ : ByteArray)]) ?_ 0 _ rfl; (with_reducible repeat (first | refine blk_drewN ?_ _ | refine blk_drew ?_ | refine blk_alloc ?_ _)); exact BK253.out) hb); have n8_ := Aside0.mk (below_step (by repeat (first | (with_reducible first | exact HB.out | apply below_alloc | apply pw_below_drewN | apply below_drew1 | refine below_set ?_ GE215.out | refine below_set ?_ GE216.out | refine below_set ?_ GE253.out) | exact HB.out)) hb); clear HO_9; clear HO_10; clear HO_14; clear HO_64; clear BK215; clear BK216; clear BK253; clear HB; have HO_9 := n0_; have HO_10 := n1_; have HO_14 := n2_; have HO_64 := n3_; have HO256 := n4_; have BK215 := n5_; have BK216 := n6_; have BK253 := n7_; have HB := n8_; clear n0_ n1_ n2_ n3_ n4_ n5_ n6_ n7_ n8_; (try clear hb); (try clear hb2); (try clear hk); (try clear hi); (try clear ho0)))
                  go_roundg k2
                  case measure => have := HJ7.out; have := HK2.out; omega
                  case rel => exact ⟨(t254), (wrap64 (x66_2 + 1)), (by first | rfl | (simp; done) | (simp [*]; done)), H', ⟨by have := HJ7.out; have := HK2.out; omega⟩, ⟨by (with_reducible repeat (first | apply Kd.R_alloc | apply Kd.R_drewN | apply Kd.R_drew)); exact Kd.R_mono HO_9.out (fun _ hk => ⟨hk.1.1.1, ⟨hk.2, hk.1.1.2.2⟩⟩)⟩, ⟨by (with_reducible repeat (first | apply Kd.R_alloc | apply Kd.R_drewN | apply Kd.R_drew)); exact Kd.R_mono HO_10.out (fun _ hk => ⟨hk.1.1.1, ⟨hk.2, hk.1.1.2.2⟩⟩)⟩, ⟨by (with_reducible repeat (first | apply Kd.R_alloc | apply Kd.R_drewN | apply Kd.R_drew)); exact Kd.R_mono HO256.out (fun _ hk => ⟨hk.1.1.1.1.2, ⟨hk.1.1.1.2, hk.1.2⟩⟩)⟩, ⟨by (with_reducible repeat (first | apply Kd.R_alloc | apply Kd.R_drewN | apply Kd.R_drew)); exact Kd.R_mono HO_64.out (fun _ hk => ⟨hk.1.1.1, ⟨hk.1.1.2.1, hk.2⟩⟩)⟩, ⟨by (with_reducible repeat (first | refine blk_drewN ?_ _ | refine blk_drew ?_ | refine blk_alloc ?_ _)); exact BK215.out⟩, ⟨by (with_reducible repeat (first | refine blk_drewN ?_ _ | refine blk_drew ?_ | refine blk_alloc ?_ _)); exact BK216.out⟩, ⟨by repeat (first | (with_reducible first | exact HB.out | apply below_alloc | apply pw_below_drewN | apply below_drew1 | refine below_set ?_ GE215.out | refine below_set ?_ GE216.out | refine below_set ?_ GE253.out) | exact HB.out)⟩⟩
                · rw [if_neg c44] at H
                  exact absurd H (by simp)
              · rw [if_neg c43] at H
                exact absurd H (by simp)
            · rw [if_neg c42] at H
              have c42b0 : decide (x66_2 < (x11_7.length : Int)) = false := decide_eq_false c42
              clear c42
              have HC52 := Aside0.mk H
              clear H
              go_upto_region 14 with (fail)
              go_cut [100] (fun v100 wc => ∃ (kq : Nat) (x100_51 : Bool), v100 = .bool x100_51 ∧ Aside0 (broadsidelaw3_TuplePuts.j3 kq a3 t217 x100_51 = some r) ∧ Aside0 (kq ≤ k2) ∧ Aside0 (Kd.R k25 25 wc w.heap.size (fun _ => True) (.slice Ao17 t217.length co17) t217) ∧ Aside0 (wc.heap[gb215]? = some (.cells #[(.slice A0_0 l0_0.length c0_0), (.slice A0_1 l0_1.length c0_1)] 35 (0, 0))) ∧ Aside0 (wc.heap[gb216]? = some (.cells #[(.slice A1_0 l1_0.length c1_0), (.slice A1_1 l1_1.length c1_1)] 35 (0, 0))) ∧ Aside0 (Below w.heap.size w wc))
              case first =>
                have H := HC52.out
                clear HC52
                replace H := Option.bind_eq_some_iff.mp H
                obtain ⟨t257, A530, H⟩ := H
                replace H : (if t257 = true then ((tuple_Same.f k2 t217 t220).bind fun t258 => ((api_Attr_20.f k2 t217 t220).bind fun t259 => (if (t258 != t259) = true then (broadsidelaw3_TuplePuts.j3 k2 a3 t217 true) else ((tuple_Say.f k2 t217).bind fun t260 => ((tuple_Say.f k2 t220).bind fun t261 => ((api_Attr_20.f k2 t217 t220).bind fun t262 => (broadsidelaw3_TuplePuts.j3 k2 a3 t217 ((t260.toList == t261.toList) != t262)))))))) else (broadsidelaw3_TuplePuts.j3 k2 a3 t217 true)) = some r := H
                have A53 := Aside0.mk A530
                clear A530
                by_cases c54 : t257 = true
                · subst c54
                  have H1 : ((tuple_Same.f k2 t217 t220).bind fun t258 => ((api_Attr_20.f k2 t217 t220).bind fun t259 => (if (t258 != t259) = true then (broadsidelaw3_TuplePuts.j3 k2 a3 t217 true) else ((tuple_Say.f k2 t217).bind fun t260 => ((tuple_Say.f k2 t220).bind fun t261 => ((api_Attr_20.f k2 t217 t220).bind fun t262 => (broadsidelaw3_TuplePuts.j3 k2 a3 t217 ((t260.toList == t261.toList) != t262)))))))) = some r := by rw [if_pos rfl] at H; exact H
                  clear H
                  have H := H1
                  clear H1
                  replace H := Option.bind_eq_some_iff.mp H
                  obtain ⟨t258, A550, H⟩ := H
                  replace H : ((api_Attr_20.f k2 t217 t220).bind fun t259 => (if (t258 != t259) = true then (broadsidelaw3_TuplePuts.j3 k2 a3 t217 true) else ((tuple_Say.f k2 t217).bind fun t260 => ((tuple_Say.f k2 t220).bind fun t261 => ((api_Attr_20.f k2 t217 t220).bind fun t262 => (broadsidelaw3_TuplePuts.j3 k2 a3 t217 ((t260.toList == t261.toList) != t262))))))) = some r := H
                  have A55 := Aside0.mk A550
                  clear A550
                  replace H := Option.bind_eq_some_iff.mp H
                  obtain ⟨t259, A560, H⟩ := H
                  replace H : (if (t258 != t259) = true then (broadsidelaw3_TuplePuts.j3 k2 a3 t217 true) else ((tuple_Say.f k2 t217).bind fun t260 => ((tuple_Say.f k2 t220).bind fun t261 => ((api_Attr_20.f k2 t217 t220).bind fun t262 => (broadsidelaw3_TuplePuts.j3 k2 a3 t217 ((t260.toList == t261.toList) != t262)))))) = some r := H
                  have A56 := Aside0.mk A560
                  clear A560
                  by_cases c57 : (t258 != t259) = true
                  · rw [if_pos c57] at H
                    have c57b0 : (t258 != t259) = true := c57
                    (try (have c57b1 : decide (t258 = t259) = false := by simpa using c57))
                    (try (have c57b2 : (t258 == t259) = false := by simpa using c57))
                    (try (have c57b3 : ¬ (t258 = t259) := by simpa using c57))
                    clear c57
                    (first | rw [c57b0] | (simp only [i64_w, i32_w]; rw [c57b0]) | skip)
                    have H' := Aside0.mk H
                    clear H
                    obtain ⟨Ao58, co58, eo58⟩ := Kd.R_slice HO_14.out
                    subst eo58
                    go_wp2_with (first | ((with_reducible refine gate_callee (f := 20) rfl ?_); refine goesL_ (some 79) rfl rfl Tryz.func20 (by kernel_rfl) rfl #[.slice Ao58 x14_2.length co58, .slice Ao17 t217.length co17] rfl (by (try simp only [List.map_toArray, List.map_cons, List.map_nil]); first | done | rfl | (simp only [List.length_drop, List.length_take]; rfl)) ?_; (with_reducible refine (api_Attr_20.calls k2 _ _ x14_2 _ _ t217 true _ ?side1 ?side2 ?side3 ?side4 A53.out).mono ?_); (case side1 => repeat (first | exact (Kd.R_reads' HO_14.out).2.2 | (with_reducible refine Kd.C_alloc ?_ _) | (with_reducible refine Kd.C_drewN ?_ _) | (with_reducible refine Kd.C_drew ?_))); (case side2 => exact (Kd.R_reads' HO_14.out).2.1); (case side3 => repeat (first | exact (Kd.R_reads' HO_9.out).2.2 | (with_reducible refine Kd.C_alloc ?_ _) | (with_reducible refine Kd.C_drewN ?_ _) | (with_reducible refine Kd.C_drew ?_))); (case side4 => exact (Kd.R_reads' HO_9.out).2.1); rintro e w' ⟨rfl, ⟨nd, rfl⟩⟩; refine ⟨_, rfl, ?_⟩; obtain ⟨Ao59, co59, eo59⟩ := Kd.R_slice HO_10.out; subst eo59) | (go_at_call 18; (with_reducible refine (tuple_Same.calls k2 _ _ t217 _ _ t220 t258 _ ?side1 ?side2 ?side3 ?side4 A55.out).mono ?_); (case side1 => repeat (first | exact (Kd.R_reads' HO_9.out).2.2 | (with_reducible refine Kd.C_alloc ?_ _) | (with_reducible refine Kd.C_drewN ?_ _) | (with_reducible refine Kd.C_drew ?_))); (case side2 => exact (Kd.R_reads' HO_9.out).2.1); (case side3 => repeat (first | exact (Kd.R_reads' HO_10.out).2.2 | (with_reducible refine Kd.C_alloc ?_ _) | (with_reducible refine Kd.C_drewN ?_ _) | (with_reducible refine Kd.C_drew ?_))); (case side4 => exact (Kd.R_reads' HO_10.out).2.1); rintro e w' ⟨rfl, ⟨nd, rfl⟩⟩) | (go_at_call 20; (with_reducible refine (api_Attr_20.calls k2 _ _ t217 _ _ t220 t259 _ ?side1 ?side2 ?side3 ?side4 A56.out).mono ?_); (case side1 => repeat (first | exact (Kd.R_reads' HO_9.out).2.2 | (with_reducible refine Kd.C_alloc ?_ _) | (with_reducible refine Kd.C_drewN ?_ _) | (with_reducible refine Kd.C_drew ?_))); (case side2 => exact (Kd.R_reads' HO_9.out).2.1); (case side3 => repeat (first | exact (Kd.R_reads' HO_10.out).2.2 | (with_reducible refine Kd.C_alloc ?_ _) | (with_reducible refine Kd.C_drewN ?_ _) | (with_reducible refine Kd.C_drew ?_))); (case side4 => exact (Kd.R_reads' HO_10.out).2.1); rintro e w' ⟨rfl, ⟨nd, rfl⟩⟩))
                    go_meet
                    case rel => exact ⟨_, (true), (by first | rfl | (simp; done) | (simp [*]; done)), H', ⟨by have := HJ7.out; have := HK2.out; first | omega | exact Nat.le_refl _⟩, ⟨by (with_reducible repeat (first | apply Kd.R_alloc | apply Kd.R_drewN | apply Kd.R_drew)); exact Kd.R_mono HO_9.out (fun _ hk => trivial)⟩, ⟨by (with_reducible repeat (first | refine blk_drewN ?_ _ | refine blk_drew ?_ | refine blk_alloc ?_ _)); exact BK215.out⟩, ⟨by (with_reducible repeat (first | refine blk_drewN ?_ _ | refine blk_drew ?_ | refine blk_alloc ?_ _)); exact BK216.out⟩, ⟨by repeat (first | (with_reducible first | exact HB.out | apply below_alloc | apply pw_below_drewN | apply below_drew1 | refine below_set ?_ GE215.out | refine below_set ?_ GE216.out) | exact HB.out)⟩⟩
                  · rw [if_neg c57] at H
                    have c57b0 : (t258 != t259) = false := by simpa using c57
                    (try (have c57b1 : decide (t258 = t259) = true := by simpa using c57))
                    (try (have c57b2 : (t258 == t259) = true := by simpa using c57))
                    clear c57
                    (first | rw [c57b0] | (simp only [i64_w, i32_w]; rw [c57b0]) | skip)
                    replace H := Option.bind_eq_some_iff.mp H
                    obtain ⟨t260, A600, H⟩ := H
                    replace H : ((tuple_Say.f k2 t220).bind fun t261 => ((api_Attr_20.f k2 t217 t220).bind fun t262 => (broadsidelaw3_TuplePuts.j3 k2 a3 t217 ((t260.toList == t261.toList) != t262)))) = some r := H
                    have A60 := Aside0.mk A600
                    clear A600
                    replace H := Option.bind_eq_some_iff.mp H
                    obtain ⟨t261, A610, H⟩ := H
                    replace H : ((api_Attr_20.f k2 t217 t220).bind fun t262 => (broadsidelaw3_TuplePuts.j3 k2 a3 t217 ((t260.toList == t261.toList) != t262))) = some r := H
                    have A61 := Aside0.mk A610
                    clear A610
                    replace H := Option.bind_eq_some_iff.mp H
                    obtain ⟨t262, A620, H⟩ := H
                    replace H : (broadsidelaw3_TuplePuts.j3 k2 a3 t217 ((t260.toList == t261.toList) != t262)) = some r := H
                    have A62 := Aside0.mk A620
                    clear A620
                    have H' := Aside0.mk H
                    clear H
                    obtain ⟨Ao63, co63, eo63⟩ := Kd.R_slice HO_14.out
                    subst eo63
                    go_wp2_with (first | ((with_reducible refine gate_callee (f := 20) rfl ?_); refine goesL_ (some 79) rfl rfl Tryz.func20 (by kernel_rfl) rfl #[.slice Ao63 x14_2.length co63, .slice Ao17 t217.length co17] rfl (by (try simp only [List.map_toArray, List.map_cons, List.map_nil]); first | done | rfl | (simp only [List.length_drop, List.length_take]; rfl)) ?_; (with_reducible refine (api_Attr_20.calls k2 _ _ x14_2 _ _ t217 true _ ?side1 ?side2 ?side3 ?side4 A53.out).mono ?_); (case side1 => repeat (first | exact (Kd.R_reads' HO_14.out).2.2 | (with_reducible refine Kd.C_alloc ?_ _) | (with_reducible refine Kd.C_drewN ?_ _) | (with_reducible refine Kd.C_drew ?_))); (case side2 => exact (Kd.R_reads' HO_14.out).2.1); (case side3 => repeat (first | exact (Kd.R_reads' HO_9.out).2.2 | (with_reducible refine Kd.C_alloc ?_ _) | (with_reducible refine Kd.C_drewN ?_ _) | (with_reducible refine Kd.C_drew ?_))); (case side4 => exact (Kd.R_reads' HO_9.out).2.1); rintro e w' ⟨rfl, ⟨nd, rfl⟩⟩; refine ⟨_, rfl, ?_⟩; obtain ⟨Ao64, co64, eo64⟩ := Kd.R_slice HO_10.out; subst eo64) | (go_at_call 18; (with_reducible refine (tuple_Same.calls k2 _ _ t217 _ _ t220 t258 _ ?side1 ?side2 ?side3 ?side4 A55.out).mono ?_); (case side1 => repeat (first | exact (Kd.R_reads' HO_9.out).2.2 | (with_reducible refine Kd.C_alloc ?_ _) | (with_reducible refine Kd.C_drewN ?_ _) | (with_reducible refine Kd.C_drew ?_))); (case side2 => exact (Kd.R_reads' HO_9.out).2.1); (case side3 => repeat (first | exact (Kd.R_reads' HO_10.out).2.2 | (with_reducible refine Kd.C_alloc ?_ _) | (with_reducible refine Kd.C_drewN ?_ _) | (with_reducible refine Kd.C_drew ?_))); (case side4 => exact (Kd.R_reads' HO_10.out).2.1); rintro e w' ⟨rfl, ⟨nd, rfl⟩⟩) | (go_at_call 20; (with_reducible refine (api_Attr_20.calls k2 _ _ t217 _ _ t220 t259 _ ?side1 ?side2 ?side3 ?side4 A56.out).mono ?_); (case side1 => repeat (first | exact (Kd.R_reads' HO_9.out).2.2 | (with_reducible refine Kd.C_alloc ?_ _) | (with_reducible refine Kd.C_drewN ?_ _) | (with_reducible refine Kd.C_drew ?_))); (case side2 => exact (Kd.R_reads' HO_9.out).2.1); (case side3 => repeat (first | exact (Kd.R_reads' HO_10.out).2.2 | (with_reducible refine Kd.C_alloc ?_ _) | (with_reducible refine Kd.C_drewN ?_ _) | (with_reducible refine Kd.C_drew ?_))); (case side4 => exact (Kd.R_reads' HO_10.out).2.1); rintro e w' ⟨rfl, ⟨nd, rfl⟩⟩) | (go_at_call 9; (with_reducible refine (tuple_Say.calls k2 _ _ t217 t260 _ ?side0 ?side1 ?side2 A60.out).mono ?_); (case side0 => exact Val.tb HTAB (by repeat (first | (with_reducible first | exact HB.out | apply below_alloc | apply pw_below_drewN | apply below_drew1 | refine below_set ?_ GE215.out | refine below_set ?_ GE216.out | refine below_set ?_ GE253.out | refine below_set ?_ GE279.out) | exact HB.out))); (case side1 => repeat (first | exact (Kd.R_reads' HO_9.out).2.2 | (with_reducible refine Kd.C_alloc ?_ _) | (with_reducible refine Kd.C_drewN ?_ _) | (with_reducible refine Kd.C_drew ?_))); (case side2 => exact (Kd.R_reads' HO_9.out).2.1); rintro e w65 ⟨rfl, hb⟩; have n0_ := Aside0.mk (Kd.R_below (by (with_reducible repeat (first | apply Kd.R_alloc | apply Kd.R_drewN | apply Kd.R_drew)); exact HO_9.out) hb); have n1_ := Aside0.mk (Kd.R_below (by (with_reducible repeat (first | apply Kd.R_alloc | apply Kd.R_drewN | apply Kd.R_drew)); exact HO_10.out) hb); have n2_ := Aside0.mk (Kd.R_below (by (with_reducible repeat (first | apply Kd.R_alloc | apply Kd.R_drewN | apply Kd.R_drew)); exact HO_14.out) hb); have n3_ := Aside0.mk (Kd.R_below (by (with_reducible repeat (first | apply Kd.R_alloc | apply Kd.R_drewN | apply Kd.R_drew)); exact HO_64.out) hb); have n4_ := Aside0.mk (blk_below (g := gb215) (o := .cells #[.slice A0_0 l0_0.length c0_0, .slice A0_1 l0_1.length c0_1] 35 (0, 0)) (by (with_reducible repeat (first | refine blk_drewN ?_ _ | refine blk_drew ?_ | refine blk_alloc ?_ _)); exact BK215.out) hb); have n5_ := Aside0.mk (blk_below (g := gb216) (o := .cells #[.slice A1_0 l1_0.length c1_0, .slice A1_1 l1_1.length c1_1] 35 (0, 0)) (by (with_reducible repeat (first | refine blk_drewN ?_ _ | refine blk_drew ?_ | refine blk_alloc ?_ _)); exact BK216.out) hb); have n6_ := Aside0.mk (below_step (by repeat (first | (with_reducible first | exact HB.out | apply below_alloc | apply pw_below_drewN | apply below_drew1 | refine below_set ?_ GE215.out | refine below_set ?_ GE216.out) | exact HB.out)) hb); clear HO_9; clear HO_10; clear HO_14; clear HO_64; clear BK215; clear BK216; clear HB; have HO_9 := n0_; have HO_10 := n1_; have HO_14 := n2_; have HO_64 := n3_; have BK215 := n4_; have BK216 := n5_; have HB := n6_; clear n0_ n1_ n2_ n3_ n4_ n5_ n6_; (try clear hb); (try clear hb2); (try clear hk); (try clear hi)) | (go_at_call 9; (with_reducible refine (tuple_Say.calls k2 _ _ t220 t261 _ ?side0 ?side1 ?side2 A61.out).mono ?_); (case side0 => exact Val.tb HTAB (by repeat (first | (with_reducible first | exact HB.out | apply below_alloc | apply pw_below_drewN | apply below_drew1 | refine below_set ?_ GE215.out | refine below_set ?_ GE216.out | refine below_set ?_ GE253.out | refine below_set ?_ GE279.out) | exact HB.out))); (case side1 => repeat (first | exact (Kd.R_reads' HO_10.out).2.2 | (with_reducible refine Kd.C_alloc ?_ _) | (with_reducible refine Kd.C_drewN ?_ _) | (with_reducible refine Kd.C_drew ?_))); (case side2 => exact (Kd.R_reads' HO_10.out).2.1); rintro e w66 ⟨rfl, hb⟩; have n0_ := Aside0.mk (Kd.R_below (by (with_reducible repeat (first | apply Kd.R_alloc | apply Kd.R_drewN | apply Kd.R_drew)); exact HO_9.out) hb); have n1_ := Aside0.mk (Kd.R_below (by (with_reducible repeat (first | apply Kd.R_alloc | apply Kd.R_drewN | apply Kd.R_drew)); exact HO_10.out) hb); have n2_ := Aside0.mk (Kd.R_below (by (with_reducible repeat (first | apply Kd.R_alloc | apply Kd.R_drewN | apply Kd.R_drew)); exact HO_14.out) hb); have n3_ := Aside0.mk (Kd.R_below (by (with_reducible repeat (first | apply Kd.R_alloc | apply Kd.R_drewN | apply Kd.R_drew)); exact HO_64.out) hb); have n4_ := Aside0.mk (blk_below (g := gb215) (o := .cells #[.slice A0_0 l0_0.length c0_0, .slice A0_1 l0_1.length c0_1] 35 (0, 0)) (by (with_reducible repeat (first | refine blk_drewN ?_ _ | refine blk_drew ?_ | refine blk_alloc ?_ _)); exact BK215.out) hb); have n5_ := Aside0.mk (blk_below (g := gb216) (o := .cells #[.slice A1_0 l1_0.length c1_0, .slice A1_1 l1_1.length c1_1] 35 (0, 0)) (by (with_reducible repeat (first | refine blk_drewN ?_ _ | refine blk_drew ?_ | refine blk_alloc ?_ _)); exact BK216.out) hb); have n6_ := Aside0.mk (below_step (by repeat (first | (with_reducible first | exact HB.out | apply below_alloc | apply pw_below_drewN | apply below_drew1 | refine below_set ?_ GE215.out | refine below_set ?_ GE216.out) | exact HB.out)) hb); clear HO_9; clear HO_10; clear HO_14; clear HO_64; clear BK215; clear BK216; clear HB; have HO_9 := n0_; have HO_10 := n1_; have HO_14 := n2_; have HO_64 := n3_; have BK215 := n4_; have BK216 := n5_; have HB := n6_; clear n0_ n1_ n2_ n3_ n4_ n5_ n6_; (try clear hb); (try clear hb2); (try clear hk); (try clear hi)) | (go_at_call 20; (with_reducible refine (api_Attr_20.calls k2 _ _ t217 _ _ t220 t262 _ ?side1 ?side2 ?side3 ?side4 A62.out).mono ?_); (case side1 => repeat (first | exact (Kd.R_reads' HO_9.out).2.2 | (with_reducible refine Kd.C_alloc ?_ _) | (with_reducible refine Kd.C_drewN ?_ _) | (with_reducible refine Kd.C_drew ?_))); (case side2 => exact (Kd.R_reads' HO_9.out).2.1); (case side3 => repeat (first | exact (Kd.R_reads' HO_10.out).2.2 | (with_reducible refine Kd.C_alloc ?_ _) | (with_reducible refine Kd.C_drewN ?_ _) | (with_reducible refine Kd.C_drew ?_))); (case side4 => exact (Kd.R_reads' HO_10.out).2.1); rintro e w' ⟨rfl, ⟨nd, rfl⟩⟩))
                    go_meet
                    case rel => exact ⟨_, (((t260.toList == t261.toList) != t262)), (by rw [show t262 = t259 from Option.some.inj (A62.out.symm.trans A56.out)]; first | rfl | (simp; done) | (simp [bne]; done)), H', ⟨by have := HJ7.out; have := HK2.out; first | omega | exact Nat.le_refl _⟩, ⟨by (with_reducible repeat (first | apply Kd.R_alloc | apply Kd.R_drewN | apply Kd.R_drew)); exact Kd.R_mono HO_9.out (fun _ hk => trivial)⟩, ⟨by (with_reducible repeat (first | refine blk_drewN ?_ _ | refine blk_drew ?_ | refine blk_alloc ?_ _)); exact BK215.out⟩, ⟨by (with_reducible repeat (first | refine blk_drewN ?_ _ | refine blk_drew ?_ | refine blk_alloc ?_ _)); exact BK216.out⟩, ⟨by repeat (first | (with_reducible first | exact HB.out | apply below_alloc | apply pw_below_drewN | apply below_drew1 | refine below_set ?_ GE215.out | refine below_set ?_ GE216.out) | exact HB.out)⟩⟩
                · replace c54 := Bool.eq_false_iff.mpr c54
                  subst c54
                  have H1 : (broadsidelaw3_TuplePuts.j3 k2 a3 t217 true) = some r := by rw [if_neg (show ¬ (false = true) by decide)] at H; exact H
                  clear H
                  have H := H1
                  clear H1
                  have H' := Aside0.mk H
                  clear H
                  obtain ⟨Ao67, co67, eo67⟩ := Kd.R_slice HO_14.out
                  subst eo67
                  go_wp2_with (first | ((with_reducible refine gate_callee (f := 20) rfl ?_); refine goesL_ (some 79) rfl rfl Tryz.func20 (by kernel_rfl) rfl #[.slice Ao67 x14_2.length co67, .slice Ao17 t217.length co17] rfl (by (try simp only [List.map_toArray, List.map_cons, List.map_nil]); first | done | rfl | (simp only [List.length_drop, List.length_take]; rfl)) ?_; (with_reducible refine (api_Attr_20.calls k2 _ _ x14_2 _ _ t217 false _ ?side1 ?side2 ?side3 ?side4 A53.out).mono ?_); (case side1 => repeat (first | exact (Kd.R_reads' HO_14.out).2.2 | (with_reducible refine Kd.C_alloc ?_ _) | (with_reducible refine Kd.C_drewN ?_ _) | (with_reducible refine Kd.C_drew ?_))); (case side2 => exact (Kd.R_reads' HO_14.out).2.1); (case side3 => repeat (first | exact (Kd.R_reads' HO_9.out).2.2 | (with_reducible refine Kd.C_alloc ?_ _) | (with_reducible refine Kd.C_drewN ?_ _) | (with_reducible refine Kd.C_drew ?_))); (case side4 => exact (Kd.R_reads' HO_9.out).2.1); rintro e w' ⟨rfl, ⟨nd, rfl⟩⟩; refine ⟨_, rfl, ?_⟩))
                  go_meet
                  case rel => exact ⟨_, (true), (by first | rfl | (simp; done) | (simp [*]; done)), H', ⟨by have := HJ7.out; have := HK2.out; first | omega | exact Nat.le_refl _⟩, ⟨by (with_reducible repeat (first | apply Kd.R_alloc | apply Kd.R_drewN | apply Kd.R_drew)); exact Kd.R_mono HO_9.out (fun _ hk => trivial)⟩, ⟨by (with_reducible repeat (first | refine blk_drewN ?_ _ | refine blk_drew ?_ | refine blk_alloc ?_ _)); exact BK215.out⟩, ⟨by (with_reducible repeat (first | refine blk_drewN ?_ _ | refine blk_drew ?_ | refine blk_alloc ?_ _)); exact BK216.out⟩, ⟨by repeat (first | (with_reducible first | exact HB.out | apply below_alloc | apply pw_below_drewN | apply below_drew1 | refine below_set ?_ GE215.out | refine below_set ?_ GE216.out) | exact HB.out)⟩⟩
              case rest =>
                clear HC52
                try clear c1
                try clear c2
                try clear p2
                try clear q2
                try clear hx2
                try clear c3
                try clear q3
                try clear c4
                try clear c5
                try clear c6
                try clear p6
                try clear c7
                try clear c10
                try clear c12
                try clear c13
                try clear c18
                try clear c18b0
                try clear c19
                try clear c19b0
                try clear c19b1
                try clear c20
                try clear c20b0
                try clear c22
                try clear c22b0
                try clear p22
                try clear q22
                try clear hx22
                try clear c23
                try clear c23b0
                try clear p23
                try clear q23
                try clear hx23
                try clear c24
                try clear c25
                try clear c25b0
                try clear p25
                try clear q25
                try clear hx25
                try clear c26
                try clear c26b0
                try clear c26b1
                try clear c27
                try clear c29
                try clear c29b0
                try clear c29b1
                try clear c30
                try clear c30b0
                try clear c30b1
                try clear c31
                try clear q36
                try clear c38
                try clear q38
                try clear c42
                try clear c42b0
                try clear c43
                try clear c43b0
                try clear c44
                try clear c44b0
                try clear c47
                try clear c48
                try clear c54
                try clear c57
                try clear c57b0
                try clear c57b1
                try clear c57b2
                try clear p64
                try clear hcz49_0
                try clear hcz49_1
                try clear hcz49_2
                try clear hcz49_3
                try clear hfz49_0
                try clear hfz49_1
                try clear hfz49_2
                try clear hfz49_3
                try clear hx229_0
                try clear hx234_0
                try clear hx234_1
                try clear hx234_2
                try clear hx234_3
                try clear hx252_0
                try clear hx252_1
                try clear hx252_2
                try clear hx252_3
                try clear p2
                try clear p22
                try clear p229
                try clear p23
                try clear p234
                try clear p252
                try clear p6
                try clear q038
                try clear q2
                try clear q22
                try clear q229
                try clear q23
                try clear q234
                try clear q252
                try clear q3
                try clear q36
                try clear q38
                obtain ⟨kq, x100_51, rfl, HA, HJ51, HO_9, BK215, BK216, HB⟩ := hcut
                cases kq with
                | zero => exact absurd HA.out (by simp [broadsidelaw3_TuplePuts.j3])
                | succ kj51 =>
                  have H := HA.out
                  clear HA
                  simp only [broadsidelaw3_TuplePuts.j3] at H
                  by_cases c68 : x100_51 = true
                  · subst c68
                    have H1 : (some false) = some r := by rw [if_pos rfl] at H; exact H
                    exact absurd ((Option.some.inj H1).trans HRT.out) (by decide)
                  · replace c68 := Bool.eq_false_iff.mpr c68
                    subst c68
                    have H1 : ((broadsidekeep_Names.f).bind fun t263 => (broadsidelaw3_TuplePuts.l2 kj51 a3 t217 t263 (t263.length : Int) 0)) = some r := by rw [if_neg (show ¬ (false = true) by decide)] at H; exact H
                    clear H
                    have H := H1
                    clear H1
                    replace H := Option.bind_eq_some_iff.mp H
                    obtain ⟨t263, A690, H⟩ := H
                    replace H : (broadsidelaw3_TuplePuts.l2 kj51 a3 t217 t263 (t263.length : Int) 0) = some r := H
                    have A69 := Aside0.mk A690
                    clear A690
                    have H' := Aside0.mk H
                    clear H
                    go_wp2_with (first | ((with_reducible refine gate_callee (f := 21) rfl ?_); refine goesL_ (some 101) rfl rfl Tryz.func21 (by kernel_rfl) rfl #[] rfl (by (try simp only [List.map_toArray, List.map_cons, List.map_nil]); first | done | rfl | (simp only [List.length_drop, List.length_take]; rfl)) ?_; (with_reducible refine (broadsidekeep_Names.calls  t263 _ A69.out).mono ?_); rintro e w70 ⟨v264, rfl, ho0, hb⟩; refine ⟨_, rfl, ?_⟩; have n0_ := Aside0.mk (Kd.R_below (by (with_reducible repeat (first | apply Kd.R_alloc | apply Kd.R_drewN | apply Kd.R_drew)); exact HO_9.out) hb); have n1_ := Aside0.mk (Kd.R_lower ho0 (below_size (by repeat (first | (with_reducible first | exact HB.out | apply below_alloc | apply pw_below_drewN | apply below_drew1 | refine below_set ?_ GE215.out | refine below_set ?_ GE216.out) | exact HB.out)))); have n2_ := Aside0.mk (blk_below (g := gb215) (o := .cells #[.slice A0_0 l0_0.length c0_0, .slice A0_1 l0_1.length c0_1] 35 (0, 0)) (by (with_reducible repeat (first | refine blk_drewN ?_ _ | refine blk_drew ?_ | refine blk_alloc ?_ _)); exact BK215.out) hb); have n3_ := Aside0.mk (blk_below (g := gb216) (o := .cells #[.slice A1_0 l1_0.length c1_0, .slice A1_1 l1_1.length c1_1] 35 (0, 0)) (by (with_reducible repeat (first | refine blk_drewN ?_ _ | refine blk_drew ?_ | refine blk_alloc ?_ _)); exact BK216.out) hb); have n4_ := Aside0.mk (below_step (by repeat (first | (with_reducible first | exact HB.out | apply below_alloc | apply pw_below_drewN | apply below_drew1 | refine below_set ?_ GE215.out | refine below_set ?_ GE216.out) | exact HB.out)) hb); clear HO_9; clear BK215; clear BK216; clear HB; have HO_9 := n0_; have HO265 := n1_; have BK215 := n2_; have BK216 := n3_; have HB := n4_; clear n0_ n1_ n2_ n3_ n4_; (try clear hb); (try clear hb2); (try clear hk); (try clear hi); (try clear ho0); obtain ⟨Ao71, co71, eo71⟩ := Kd.R_slice HO265.out; subst eo71))
                    go_loopg [103] kj51 (fun kq v103 w' => ∃ (x103_4 : Int), v103 = .int .i64 x103_4 ∧ Aside0 (broadsidelaw3_TuplePuts.l2 kq a3 t217 t263 (t263.length : Int) x103_4 = some r) ∧ Aside0 (kq ≤ kj51) ∧ Aside0 (Kd.R k25 25 w' w.heap.size (fun _ => True) (.slice Ao17 t217.length co17) t217) ∧ Aside0 (Kd.R Kd.string 9 w' w.heap.size (fun _ => True) (.slice Ao71 t263.length co71) t263) ∧ Aside0 (w'.heap[gb215]? = some (.cells #[(.slice A0_0 l0_0.length c0_0), (.slice A0_1 l0_1.length c0_1)] 35 (0, 0))) ∧ Aside0 (w'.heap[gb216]? = some (.cells #[(.slice A1_0 l1_0.length c1_0), (.slice A1_1 l1_1.length c1_1)] 35 (0, 0))) ∧ Aside0 (Below w.heap.size w w'))
                    case atStart => exact ⟨(0), (by first | rfl | (simp; done) | (simp [*]; done)), H', ⟨Nat.le_refl _⟩, ⟨by (with_reducible repeat (first | apply Kd.R_alloc | apply Kd.R_drewN | apply Kd.R_drew)); exact HO_9.out⟩, ⟨by (with_reducible repeat (first | apply Kd.R_alloc | apply Kd.R_drewN | apply Kd.R_drew)); exact HO265.out⟩, ⟨by (with_reducible repeat (first | refine blk_drewN ?_ _ | refine blk_drew ?_ | refine blk_alloc ?_ _)); exact BK215.out⟩, ⟨by (with_reducible repeat (first | refine blk_drewN ?_ _ | refine blk_drew ?_ | refine blk_alloc ?_ _)); exact BK216.out⟩, ⟨by repeat (first | (with_reducible first | exact HB.out | apply below_alloc | apply pw_below_drewN | apply below_drew1 | refine below_set ?_ GE215.out | refine below_set ?_ GE216.out) | exact HB.out)⟩⟩
                    case round =>
                      clear H'
                      try clear c1
                      try clear c2
                      try clear p2
                      try clear q2
                      try clear hx2
                      try clear c3
                      try clear q3
                      try clear c4
                      try clear c5
                      try clear c6
                      try clear p6
                      try clear c7
                      try clear c10
                      try clear c12
                      try clear c13
                      try clear c18
                      try clear c18b0
                      try clear c19
                      try clear c19b0
                      try clear c19b1
                      try clear c20
                      try clear c20b0
                      try clear c21
                      try clear c22
                      try clear c22b0
                      try clear p22
                      try clear q22
                      try clear hx22
                      try clear c23
                      try clear c23b0
                      try clear p23
                      try clear q23
                      try clear hx23
                      try clear c24
                      try clear c25
                      try clear c25b0
                      try clear p25
                      try clear q25
                      try clear hx25
                      try clear c26
                      try clear c26b0
                      try clear c26b1
                      try clear c27
                      try clear c29
                      try clear c29b0
                      try clear c29b1
                      try clear c30
                      try clear c30b0
                      try clear c30b1
                      try clear c31
                      try clear q36
                      try clear c38
                      try clear q38
                      try clear c42
                      try clear c42b0
                      try clear c43
                      try clear c43b0
                      try clear c44
                      try clear c44b0
                      try clear c47
                      try clear c48
                      try clear c54
                      try clear c57
                      try clear c57b0
                      try clear c57b1
                      try clear c57b2
                      try clear p64
                      try clear c68
                      try clear hcz49_0
                      try clear hcz49_1
                      try clear hcz49_2
                      try clear hcz49_3
                      try clear hfz49_0
                      try clear hfz49_1
                      try clear hfz49_2
                      try clear hfz49_3
                      try clear hx229_0
                      try clear hx234_0
                      try clear hx234_1
                      try clear hx234_2
                      try clear hx234_3
                      try clear hx252_0
                      try clear hx252_1
                      try clear hx252_2
                      try clear hx252_3
                      try clear p2
                      try clear p22
                      try clear p229
                      try clear p23
                      try clear p234
                      try clear p25
                      try clear p252
                      try clear p6
                      try clear p64
                      try clear q038
                      try clear q2
                      try clear q22
                      try clear q229
                      try clear q23
                      try clear q234
                      try clear q25
                      try clear q252
                      try clear q3
                      try clear q36
                      try clear q38
                      obtain ⟨x103_4, rfl, HA, HK4, HO_9, HO_101, BK215, BK216, HB⟩ := hrel
                      cases gk with
                      | zero => exact absurd HA.out (by simp [broadsidelaw3_TuplePuts.l2])
                      | succ k4 =>
                        have H := HA.out
                        clear HA
                        simp only [broadsidelaw3_TuplePuts.l2] at H
                        by_cases c72 : x103_4 < (t263.length : Int)
                        · rw [if_pos c72] at H
                          have c72b0 : decide (x103_4 < (t263.length : Int)) = true := decide_eq_true c72
                          clear c72
                          by_cases c73 : 0 ≤ x103_4
                          · rw [if_pos c73] at H
                            have c73b0 : decide (0 ≤ x103_4) = true := decide_eq_true c73
                            clear c73
                            by_cases c74 : x103_4 < (t263.length : Int)
                            · rw [if_pos c74] at H
                              have c74b0 : decide (x103_4 < (t263.length : Int)) = true := decide_eq_true c74
                              clear c74
                              replace H := Option.bind_eq_some_iff.mp H
                              obtain ⟨⟨t269, t270, t271⟩, A750, H⟩ := H
                              replace H : ((tuple_Put.f t217 (rdOf ByteArray.empty t263 x103_4) t269 t270 t271).bind fun t272 => ((tuple_Get.f k4 t272 (rdOf ByteArray.empty t263 x103_4)).bind fun bt275 => (if bt275.2.2.2 = true then ((broadsidekeep_Value.f a3).bind fun bt280 => (if (!(bt275.1 == bt280.1) || (!(bt275.2.1 == bt280.2.1) || (!(bt275.2.2.1.toList == bt280.2.2.toList)))) = true then (some false) else (if (t272.length : Int) ≤ 5 then ((tuple_Right.f k4 t272).bind fun t283 => (if t283 = true then (broadsidelaw3_TuplePuts.l2 k4 a3 t217 t263 (t263.length : Int) (wrap64 (x103_4 + 1))) else (some false))) else (broadsidelaw3_TuplePuts.l2 k4 a3 t217 t263 (t263.length : Int) (wrap64 (x103_4 + 1)))))) else (some false)))) = some r := H
                              have A75 := Aside0.mk A750
                              clear A750
                              replace H := Option.bind_eq_some_iff.mp H
                              obtain ⟨t272, A760, H⟩ := H
                              replace H : ((tuple_Get.f k4 t272 (rdOf ByteArray.empty t263 x103_4)).bind fun bt275 => (if bt275.2.2.2 = true then ((broadsidekeep_Value.f a3).bind fun bt280 => (if (!(bt275.1 == bt280.1) || (!(bt275.2.1 == bt280.2.1) || (!(bt275.2.2.1.toList == bt280.2.2.toList)))) = true then (some false) else (if (t272.length : Int) ≤ 5 then ((tuple_Right.f k4 t272).bind fun t283 => (if t283 = true then (broadsidelaw3_TuplePuts.l2 k4 a3 t217 t263 (t263.length : Int) (wrap64 (x103_4 + 1))) else (some false))) else (broadsidelaw3_TuplePuts.l2 k4 a3 t217 t263 (t263.length : Int) (wrap64 (x103_4 + 1)))))) else (some false))) = some r := H
                              have A76 := Aside0.mk A760
                              clear A760
                              replace H := Option.bind_eq_some_iff.mp H
                              obtain ⟨⟨t275, t276, t277, t278⟩, A770, H⟩ := H
                              replace H : (if t278 = true then ((broadsidekeep_Value.f a3).bind fun bt280 => (if (!(t275 == bt280.1) || (!(t276 == bt280.2.1) || (!(t277.toList == bt280.2.2.toList)))) = true then (some false) else (if (t272.length : Int) ≤ 5 then ((tuple_Right.f k4 t272).bind fun t283 => (if t283 = true then (broadsidelaw3_TuplePuts.l2 k4 a3 t217 t263 (t263.length : Int) (wrap64 (x103_4 + 1))) else (some false))) else (broadsidelaw3_TuplePuts.l2 k4 a3 t217 t263 (t263.length : Int) (wrap64 (x103_4 + 1)))))) else (some false)) = some r := H
                              have A77 := Aside0.mk A770
                              clear A770
                              by_cases c78 : t278 = true
                              · subst c78
                                have H1 : ((broadsidekeep_Value.f a3).bind fun bt280 => (if (!(t275 == bt280.1) || (!(t276 == bt280.2.1) || (!(t277.toList == bt280.2.2.toList)))) = true then (some false) else (if (t272.length : Int) ≤ 5 then ((tuple_Right.f k4 t272).bind fun t283 => (if t283 = true then (broadsidelaw3_TuplePuts.l2 k4 a3 t217 t263 (t263.length : Int) (wrap64 (x103_4 + 1))) else (some false))) else (broadsidelaw3_TuplePuts.l2 k4 a3 t217 t263 (t263.length : Int) (wrap64 (x103_4 + 1)))))) = some r := by rw [if_pos rfl] at H; exact H
                                clear H
                                have H := H1
                                clear H1
                                replace H := Option.bind_eq_some_iff.mp H
                                obtain ⟨⟨t280, t281, t282⟩, A790, H⟩ := H
                                replace H : (if (!(t275 == t280) || (!(t276 == t281) || (!(t277.toList == t282.toList)))) = true then (some false) else (if (t272.length : Int) ≤ 5 then ((tuple_Right.f k4 t272).bind fun t283 => (if t283 = true then (broadsidelaw3_TuplePuts.l2 k4 a3 t217 t263 (t263.length : Int) (wrap64 (x103_4 + 1))) else (some false))) else (broadsidelaw3_TuplePuts.l2 k4 a3 t217 t263 (t263.length : Int) (wrap64 (x103_4 + 1))))) = some r := H
                                have A79 := Aside0.mk A790
                                clear A790
                                by_cases c80 : (!(t275 == t280) || (!(t276 == t281) || (!(t277.toList == t282.toList)))) = true
                                · rw [if_pos c80] at H
                                  exact absurd ((Option.some.inj H).trans HRT.out) (by decide)
                                · rw [if_neg c80] at H
                                  have c80b0 : (!(t275 == t280) || (!(t276 == t281) || (!(t277.toList == t282.toList)))) = false := by simpa using c80
                                  have NE80 : ∀ w_ : World, (binOp .neq 23 (.agg #[.bool t275, .int .i64 t276, .string t277]) (.agg #[.bool t280, .int .i64 t281, .string t282])).run Tryz.prog w_ = .ok (.bool false) w_ := fun w_ => neq23_false c80b0
                                  clear c80
                                  by_cases c92 : (t272.length : Int) ≤ 5
                                  · rw [if_pos c92] at H
                                    have c92b0 : decide ((t272.length : Int) ≤ 5) = true := decide_eq_true c92
                                    have c92b1 : decide (t272.length ≤ 5) = true := decide_eq_true (by omega)
                                    clear c92
                                    replace H := Option.bind_eq_some_iff.mp H
                                    obtain ⟨t283, A930, H⟩ := H
                                    replace H : (if t283 = true then (broadsidelaw3_TuplePuts.l2 k4 a3 t217 t263 (t263.length : Int) (wrap64 (x103_4 + 1))) else (some false)) = some r := H
                                    have A93 := Aside0.mk A930
                                    clear A930
                                    by_cases c94 : t283 = true
                                    · subst c94
                                      have H1 : (broadsidelaw3_TuplePuts.l2 k4 a3 t217 t263 (t263.length : Int) (wrap64 (x103_4 + 1))) = some r := by rw [if_pos rfl] at H; exact H
                                      clear H
                                      have H := H1
                                      clear H1
                                      have H' := Aside0.mk H
                                      clear H
                                      have p268 : 0 ≤ (x103_4 : Int) := of_decide_eq_true (by first | (with_reducible assumption) | assumption)
                                      have q268 : x103_4 < (t263.length : Int) := of_decide_eq_true (by first | (with_reducible assumption) | assumption)
                                      obtain ⟨ad268, e268, hx268_0⟩ := Kd.at_string (Kd.R_reads' HO_101.out).2.2 x103_4 p268 q268
                                      cases e268
                                      replace p268 := eq_true p268
                                      replace q268 := eq_true q268
                                      try go_wp2_with (first | ((with_reducible refine gate_callee (f := 22) rfl ?_); refine goesL_ (some 110) rfl rfl Tryz.func22 (by kernel_rfl) rfl #[.int .i64 a3] rfl (by (try simp only [List.map_toArray, List.map_cons, List.map_nil]); first | done | rfl | (simp only [List.length_drop, List.length_take]; rfl)) ?_; (with_reducible refine (broadsidekeep_Value.calls a3 t269 t270 t271 _ A75.out).mono ?_); rintro e w95 ⟨rfl, hb⟩; refine ⟨_, rfl, ?_⟩; have n0_ := Aside0.mk (Kd.R_below (by (with_reducible repeat (first | apply Kd.R_alloc | apply Kd.R_drewN | apply Kd.R_drew)); exact HO_9.out) hb); have n1_ := Aside0.mk (Kd.R_below (by (with_reducible repeat (first | apply Kd.R_alloc | apply Kd.R_drewN | apply Kd.R_drew)); exact HO_101.out) hb); have n2_ := Aside0.mk (blk_below (g := gb215) (o := .cells #[.slice A0_0 l0_0.length c0_0, .slice A0_1 l0_1.length c0_1] 35 (0, 0)) (by (with_reducible repeat (first | refine blk_drewN ?_ _ | refine blk_drew ?_ | refine blk_alloc ?_ _)); exact BK215.out) hb); have n3_ := Aside0.mk (blk_below (g := gb216) (o := .cells #[.slice A1_0 l1_0.length c1_0, .slice A1_1 l1_1.length c1_1] 35 (0, 0)) (by (with_reducible repeat (first | refine blk_drewN ?_ _ | refine blk_drew ?_ | refine blk_alloc ?_ _)); exact BK216.out) hb); have n4_ := Aside0.mk (below_step (by repeat (first | (with_reducible first | exact HB.out | apply below_alloc | apply pw_below_drewN | apply below_drew1 | refine below_set ?_ GE215.out | refine below_set ?_ GE216.out) | exact HB.out)) hb); clear HO_9; clear HO_101; clear BK215; clear BK216; clear HB; have HO_9 := n0_; have HO_101 := n1_; have BK215 := n2_; have BK216 := n3_; have HB := n4_; clear n0_ n1_ n2_ n3_ n4_; (try clear hb); (try clear hb2); (try clear hk); (try clear hi)) | ((with_reducible refine gate_callee (f := 10) rfl ?_); refine goesL_ (some 111) rfl rfl Tryz.func10 (by kernel_rfl) rfl #[.slice Ao17 t217.length co17, .string (rdOf ByteArray.empty t263 x103_4), .agg #[.bool t269, .int .i64 t270, .string t271]] rfl (by (try simp only [List.map_toArray, List.map_cons, List.map_nil]); first | done | rfl | (simp only [List.length_drop, List.length_take]; rfl)) ?_; (with_reducible refine (tuple_Put.calls _ _ t217 (rdOf ByteArray.empty t263 x103_4) t269 t270 t271 t272 _ ?side1 ?side2 A76.out).mono ?_); (case side1 => repeat (first | exact (Kd.R_reads' HO_9.out).2.2 | (with_reducible refine Kd.C_alloc ?_ _) | (with_reducible refine Kd.C_drewN ?_ _) | (with_reducible refine Kd.C_drew ?_))); (case side2 => exact (Kd.R_reads' HO_9.out).2.1); rintro e w96 ⟨v273, rfl, ho0, hb⟩; refine ⟨_, rfl, ?_⟩; have n0_ := Aside0.mk (Kd.R_elder' (by (with_reducible repeat (first | apply Kd.R_alloc | apply Kd.R_drewN | apply Kd.R_drew)); exact HO_9.out) (Kd.R_base ho0) hb); have n1_ := Aside0.mk (Kd.R_below (by (with_reducible repeat (first | apply Kd.R_alloc | apply Kd.R_drewN | apply Kd.R_drew)); exact HO_101.out) hb); have n2_ := Aside0.mk (Kd.R_lower (Kd.R_new' ho0 (Kd.R_lt (by (with_reducible repeat (first | apply Kd.R_alloc | apply Kd.R_drewN | apply Kd.R_drew)); exact HO_9.out))) (below_size (by repeat (first | (with_reducible first | exact HB.out | apply below_alloc | apply pw_below_drewN | apply below_drew1 | refine below_set ?_ GE215.out | refine below_set ?_ GE216.out) | exact HB.out)))); have n3_ := Aside0.mk (blk_below (g := gb215) (o := .cells #[.slice A0_0 l0_0.length c0_0, .slice A0_1 l0_1.length c0_1] 35 (0, 0)) (by (with_reducible repeat (first | refine blk_drewN ?_ _ | refine blk_drew ?_ | refine blk_alloc ?_ _)); exact BK215.out) hb); have n4_ := Aside0.mk (blk_below (g := gb216) (o := .cells #[.slice A1_0 l1_0.length c1_0, .slice A1_1 l1_1.length c1_1] 35 (0, 0)) (by (with_reducible repeat (first | refine blk_drewN ?_ _ | refine blk_drew ?_ | refine blk_alloc ?_ _)); exact BK216.out) hb); have n5_ := Aside0.mk (below_step (by repeat (first | (with_reducible first | exact HB.out | apply below_alloc | apply pw_below_drewN | apply below_drew1 | refine below_set ?_ GE215.out | refine below_set ?_ GE216.out) | exact HB.out)) hb); clear HO_9; clear HO_101; clear BK215; clear BK216; clear HB; have HO_9 := n0_; have HO_101 := n1_; have HO274 := n2_; have BK215 := n3_; have BK216 := n4_; have HB := n5_; clear n0_ n1_ n2_ n3_ n4_ n5_; (try clear hb); (try clear hb2); (try clear hk); (try clear hi); (try clear ho0); obtain ⟨Ao97, co97, eo97⟩ := Kd.R_slice HO274.out; subst eo97) | ((with_reducible refine gate_callee (f := 8) rfl ?_); refine goesL_ (some 115) rfl rfl Tryz.func8 (by kernel_rfl) rfl #[.slice Ao97 t272.length co97, .string (rdOf ByteArray.empty t263 x103_4)] rfl (by (try simp only [List.map_toArray, List.map_cons, List.map_nil]); first | done | rfl | (simp only [List.length_drop, List.length_take]; rfl)) ?_; (with_reducible refine (tuple_Get.calls k4 _ _ t272 (rdOf ByteArray.empty t263 x103_4) t275 t276 t277 true _ ?side1 ?side2 A77.out).mono ?_); (case side1 => repeat (first | exact (Kd.R_reads' HO274.out).2.2 | (with_reducible refine Kd.C_alloc ?_ _) | (with_reducible refine Kd.C_drewN ?_ _) | (with_reducible refine Kd.C_drew ?_))); (case side2 => exact (Kd.R_reads' HO274.out).2.1); rintro e w98 ⟨rfl, hb⟩; refine ⟨_, rfl, ?_⟩; have n0_ := Aside0.mk (Kd.R_below (by (with_reducible repeat (first | apply Kd.R_alloc | apply Kd.R_drewN | apply Kd.R_drew)); exact HO_9.out) hb); have n1_ := Aside0.mk (Kd.R_below (by (with_reducible repeat (first | apply Kd.R_alloc | apply Kd.R_drewN | apply Kd.R_drew)); exact HO_101.out) hb); have n2_ := Aside0.mk (Kd.R_below (by (with_reducible repeat (first | apply Kd.R_alloc | apply Kd.R_drewN | apply Kd.R_drew)); exact HO274.out) hb); have n3_ := Aside0.mk (blk_below (g := gb215) (o := .cells #[.slice A0_0 l0_0.length c0_0, .slice A0_1 l0_1.length c0_1] 35 (0, 0)) (by (with_reducible repeat (first | refine blk_drewN ?_ _ | refine blk_drew ?_ | refine blk_alloc ?_ _)); exact BK215.out) hb); have n4_ := Aside0.mk (blk_below (g := gb216) (o := .cells #[.slice A1_0 l1_0.length c1_0, .slice A1_1 l1_1.length c1_1] 35 (0, 0)) (by (with_reducible repeat (first | refine blk_drewN ?_ _ | refine blk_drew ?_ | refine blk_alloc ?_ _)); exact BK216.out) hb); have n5_ := Aside0.mk (below_step (by repeat (first | (with_reducible first | exact HB.out | apply below_alloc | apply pw_below_drewN | apply below_drew1 | refine below_set ?_ GE215.out | refine below_set ?_ GE216.out) | exact HB.out)) hb); clear HO_9; clear HO_101; clear HO274; clear BK215; clear BK216; clear HB; have HO_9 := n0_; have HO_101 := n1_; have HO274 := n2_; have BK215 := n3_; have BK216 := n4_; have HB := n5_; clear n0_ n1_ n2_ n3_ n4_ n5_; (try clear hb); (try clear hb2); (try clear hk); (try clear hi)) | ((with_reducible refine gate_dst (N := 20) rfl ?_); (try (refine gate_guard (by rfl) ?_; dsimp only)); refine box_event ?hg (N := 20) ?hd (cs := #[.bool false, .int .i64 0, .string (⟨#[]⟩ : ByteArray)]) (t := 23) ?hr ?_; (case hd => rfl); (case hg => rfl); (case hr => first | (go_simp; done) | (go_simp; rfl)); intro gb279 hg w99 hbox hb; have n0_ := Aside0.mk (Kd.R_below (by (with_reducible repeat (first | apply Kd.R_alloc | apply Kd.R_drewN | apply Kd.R_drew)); exact HO_9.out) hb); have n1_ := Aside0.mk (Kd.R_below (by (with_reducible repeat (first | apply Kd.R_alloc | apply Kd.R_drewN | apply Kd.R_drew)); exact HO_101.out) hb); have n2_ := Aside0.mk (Kd.R_below (by (with_reducible repeat (first | apply Kd.R_alloc | apply Kd.R_drewN | apply Kd.R_drew)); exact HO274.out) hb); have n3_ := Aside0.mk (blk_below (g := gb215) (o := .cells #[.slice A0_0 l0_0.length c0_0, .slice A0_1 l0_1.length c0_1] 35 (0, 0)) (by (with_reducible repeat (first | refine blk_drewN ?_ _ | refine blk_drew ?_ | refine blk_alloc ?_ _)); exact BK215.out) hb); have n4_ := Aside0.mk (blk_below (g := gb216) (o := .cells #[.slice A1_0 l1_0.length c1_0, .slice A1_1 l1_1.length c1_1] 35 (0, 0)) (by (with_reducible repeat (first | refine blk_drewN ?_ _ | refine blk_drew ?_ | refine blk_alloc ?_ _)); exact BK216.out) hb); have n5_ := Aside0.mk (below_step (by repeat (first | (with_reducible first | exact HB.out | apply below_alloc | apply pw_below_drewN | apply below_drew1 | refine below_set ?_ GE215.out | refine below_set ?_ GE216.out) | exact HB.out)) hb); have n6_ := Aside0.mk (hbox); have n7_ := Aside0.mk ((by rw [hg]; exact (below_size (by repeat (first | (with_reducible first | exact HB.out | apply below_alloc | apply pw_below_drewN | apply below_drew1 | refine below_set ?_ GE215.out | refine below_set ?_ GE216.out) | exact HB.out))) : w.heap.size ≤ gb279)); have n8_ := Aside0.mk ((by rw [hg]; exact (below_size (by repeat (first | (with_reducible first | exact HB.out | apply below_alloc | apply pw_below_drewN | apply below_drew1 | refine below_set ?_ GE215.out | refine below_set ?_ GE216.out) | exact HB.out))) : w.heap.size ≤ gb279)); have n9_ := Aside0.mk ((by rw [hg]; exact Nat.ne_of_lt (blk_lt (g := gb215) (o := .cells #[.slice A0_0 l0_0.length c0_0, .slice A0_1 l0_1.length c0_1] 35 (0, 0)) (by (with_reducible repeat (first | refine blk_drewN ?_ _ | refine blk_drew ?_ | refine blk_alloc ?_ _)); exact BK215.out)) : gb215 ≠ gb279)); have n10_ := Aside0.mk ((by rw [hg]; exact Nat.ne_of_gt (blk_lt (g := gb215) (o := .cells #[.slice A0_0 l0_0.length c0_0, .slice A0_1 l0_1.length c0_1] 35 (0, 0)) (by (with_reducible repeat (first | refine blk_drewN ?_ _ | refine blk_drew ?_ | refine blk_alloc ?_ _)); exact BK215.out)) : gb279 ≠ gb215)); have n11_ := Aside0.mk ((by rw [hg]; exact Nat.ne_of_lt (blk_lt (g := gb216) (o := .cells #[.slice A1_0 l1_0.length c1_0, .slice A1_1 l1_1.length c1_1] 35 (0, 0)) (by (with_reducible repeat (first | refine blk_drewN ?_ _ | refine blk_drew ?_ | refine blk_alloc ?_ _)); exact BK216.out)) : gb216 ≠ gb279)); have n12_ := Aside0.mk ((by rw [hg]; exact Nat.ne_of_gt (blk_lt (g := gb216) (o := .cells #[.slice A1_0 l1_0.length c1_0, .slice A1_1 l1_1.length c1_1] 35 (0, 0)) (by (with_reducible repeat (first | refine blk_drewN ?_ _ | refine blk_drew ?_ | refine blk_alloc ?_ _)); exact BK216.out)) : gb279 ≠ gb216)); clear HO_9; clear HO_101; clear HO274; clear BK215; clear BK216; clear HB; have HO_9 := n0_; have HO_101 := n1_; have HO274 := n2_; have BK215 := n3_; have BK216 := n4_; have HB := n5_; have BK279 := n6_; have GW279 := n7_; have GE279 := n8_; have NB215_279 := n9_; have NB279_215 := n10_; have NB216_279 := n11_; have NB279_216 := n12_; clear n0_ n1_ n2_ n3_ n4_ n5_ n6_ n7_ n8_ n9_ n10_ n11_ n12_; clear hb hbox hg; have hnb100 := NB279_215.out; have hnc100 := NB215_279.out; have hnb101 := NB279_216.out; have hnc101 := NB216_279.out; have hcz102_0 : w99.cell? ⟨gb279, 0, none⟩ = some (.bool false) := (blk_cell BK279.out 0).trans rfl; have hcz102_1 : w99.cell? ⟨gb279, 1, none⟩ = some (.int .i64 0) := (blk_cell BK279.out 1).trans rfl; have hcz102_2 : w99.cell? ⟨gb279, 2, none⟩ = some (.string (⟨#[]⟩ : ByteArray)) := (blk_cell BK279.out 2).trans rfl; have hfz102_0 := blk_frozen BK279.out 0; have hfz102_1 := blk_frozen BK279.out 1; have hfz102_2 := blk_frozen BK279.out 2))
                                      have n0_ : Aside0 (Kd.R k25 25 (((w99.setCell ⟨gb279, 0, none⟩ (.bool t275)).setCell ⟨gb279, 1, none⟩ (.int .i64 t276)).setCell ⟨gb279, 2, none⟩ (.string t277)) w.heap.size (fun k_ => some k_ ≠ (.slice Ao97 t272.length co97 : Value).ownBlock) (.slice Ao17 t217.length co17) t217) := ⟨by (with_reducible repeat (first | apply Kd.R_alloc | apply Kd.R_drewN | apply Kd.R_drew)); exact Kd.R_mono (Kd.R_far (p := ⟨gb279, 2, none⟩) (Kd.R_far (p := ⟨gb279, 1, none⟩) (Kd.R_far (p := ⟨gb279, 0, none⟩) (Kd.R_types HO_9.out BK279.out (by decide)) (fun _ hk => hk.2) (.bool t275)) (fun _ hk => hk.2) (.int .i64 t276)) (fun _ hk => hk.2) (.string t277)) (fun _ hk => hk.1.2)⟩
                                      have n1_ : Aside0 (Kd.R Kd.string 9 (((w99.setCell ⟨gb279, 0, none⟩ (.bool t275)).setCell ⟨gb279, 1, none⟩ (.int .i64 t276)).setCell ⟨gb279, 2, none⟩ (.string t277)) w.heap.size (fun _ => True) (.slice (some ad268) t263.length co71) t263) := ⟨by (with_reducible repeat (first | apply Kd.R_alloc | apply Kd.R_drewN | apply Kd.R_drew)); exact Kd.R_mono (Kd.R_far (p := ⟨gb279, 2, none⟩) (Kd.R_far (p := ⟨gb279, 1, none⟩) (Kd.R_far (p := ⟨gb279, 0, none⟩) (Kd.R_types HO_101.out BK279.out (by decide)) (fun _ hk => hk.2) (.bool t275)) (fun _ hk => hk.2) (.int .i64 t276)) (fun _ hk => hk.2) (.string t277)) (fun _ hk => trivial)⟩
                                      have n2_ : Aside0 (Kd.R k25 25 (((w99.setCell ⟨gb279, 0, none⟩ (.bool t275)).setCell ⟨gb279, 1, none⟩ (.int .i64 t276)).setCell ⟨gb279, 2, none⟩ (.string t277)) w.heap.size (fun k_ => some k_ ≠ (.slice Ao17 t217.length co17 : Value).ownBlock) (.slice Ao97 t272.length co97) t272) := ⟨by (with_reducible repeat (first | apply Kd.R_alloc | apply Kd.R_drewN | apply Kd.R_drew)); exact Kd.R_mono (Kd.R_far (p := ⟨gb279, 2, none⟩) (Kd.R_far (p := ⟨gb279, 1, none⟩) (Kd.R_far (p := ⟨gb279, 0, none⟩) (Kd.R_types HO274.out BK279.out (by decide)) (fun _ hk => hk.2) (.bool t275)) (fun _ hk => hk.2) (.int .i64 t276)) (fun _ hk => hk.2) (.string t277)) (fun _ hk => hk.1.2)⟩
                                      have n3_ : Aside0 ((((w99.setCell ⟨gb279, 0, none⟩ (.bool t275)).setCell ⟨gb279, 1, none⟩ (.int .i64 t276)).setCell ⟨gb279, 2, none⟩ (.string t277)).heap[gb215]? = some (.cells #[.slice A0_0 l0_0.length c0_0, .slice A0_1 l0_1.length c0_1] 35 (0, 0))) := ⟨by (with_reducible repeat (first | refine blk_drewN ?_ _ | refine blk_drew ?_ | refine blk_alloc ?_ _)); refine blk_far ?_ NB215_279.out _; (with_reducible repeat (first | refine blk_drewN ?_ _ | refine blk_drew ?_ | refine blk_alloc ?_ _)); refine blk_far ?_ NB215_279.out _; (with_reducible repeat (first | refine blk_drewN ?_ _ | refine blk_drew ?_ | refine blk_alloc ?_ _)); refine blk_far ?_ NB215_279.out _; (with_reducible repeat (first | refine blk_drewN ?_ _ | refine blk_drew ?_ | refine blk_alloc ?_ _)); exact BK215.out⟩
                                      have n4_ : Aside0 ((((w99.setCell ⟨gb279, 0, none⟩ (.bool t275)).setCell ⟨gb279, 1, none⟩ (.int .i64 t276)).setCell ⟨gb279, 2, none⟩ (.string t277)).heap[gb216]? = some (.cells #[.slice A1_0 l1_0.length c1_0, .slice A1_1 l1_1.length c1_1] 35 (0, 0))) := ⟨by (with_reducible repeat (first | refine blk_drewN ?_ _ | refine blk_drew ?_ | refine blk_alloc ?_ _)); refine blk_far ?_ NB216_279.out _; (with_reducible repeat (first | refine blk_drewN ?_ _ | refine blk_drew ?_ | refine blk_alloc ?_ _)); refine blk_far ?_ NB216_279.out _; (with_reducible repeat (first | refine blk_drewN ?_ _ | refine blk_drew ?_ | refine blk_alloc ?_ _)); refine blk_far ?_ NB216_279.out _; (with_reducible repeat (first | refine blk_drewN ?_ _ | refine blk_drew ?_ | refine blk_alloc ?_ _)); exact BK216.out⟩
                                      have n5_ : Aside0 ((((w99.setCell ⟨gb279, 0, none⟩ (.bool t275)).setCell ⟨gb279, 1, none⟩ (.int .i64 t276)).setCell ⟨gb279, 2, none⟩ (.string t277)).heap[gb279]? = some (.cells #[.bool t275, .int .i64 t276, .string t277] 23 (0, 0))) := ⟨by (with_reducible repeat (first | refine blk_drewN ?_ _ | refine blk_drew ?_ | refine blk_alloc ?_ _)); refine blk_put (cs := #[.bool t275, .int .i64 t276, .string (⟨#[]⟩ : ByteArray)]) ?_ 2 _ rfl; (with_reducible repeat (first | refine blk_drewN ?_ _ | refine blk_drew ?_ | refine blk_alloc ?_ _)); refine blk_put (cs := #[.bool t275, .int .i64 0, .string (⟨#[]⟩ : ByteArray)]) ?_ 1 _ rfl; (with_reducible repeat (first | refine blk_drewN ?_ _ | refine blk_drew ?_ | refine blk_alloc ?_ _)); refine blk_put (cs := #[.bool false, .int .i64 0, .string (⟨#[]⟩ : ByteArray)]) ?_ 0 _ rfl; (with_reducible repeat (first | refine blk_drewN ?_ _ | refine blk_drew ?_ | refine blk_alloc ?_ _)); exact BK279.out⟩
                                      have n6_ : Aside0 (Below w.heap.size w (((w99.setCell ⟨gb279, 0, none⟩ (.bool t275)).setCell ⟨gb279, 1, none⟩ (.int .i64 t276)).setCell ⟨gb279, 2, none⟩ (.string t277))) := ⟨by repeat (first | (with_reducible first | exact HB.out | apply below_alloc | apply pw_below_drewN | apply below_drew1 | refine below_set ?_ GE215.out | refine below_set ?_ GE216.out | refine below_set ?_ GE279.out) | exact HB.out)⟩
                                      (try clear HO_9)
                                      (try clear HO_101)
                                      (try clear HO274)
                                      (try clear BK215)
                                      (try clear BK216)
                                      (try clear BK279)
                                      (try clear HB)
                                      generalize (((w99.setCell ⟨gb279, 0, none⟩ (.bool t275)).setCell ⟨gb279, 1, none⟩ (.int .i64 t276)).setCell ⟨gb279, 2, none⟩ (.string t277)) = w103 at n0_ n1_ n2_ n3_ n4_ n5_ n6_ ⊢
                                      have HO_9 := n0_
                                      have HO_101 := n1_
                                      have HO274 := n2_
                                      have BK215 := n3_
                                      have BK216 := n4_
                                      have BK279 := n5_
                                      have HB := n6_
                                      clear n0_ n1_ n2_ n3_ n4_ n5_ n6_
                                      have n0_ := Aside0.mk (Kd.R_drew HO_9.out)
                                      have n1_ := Aside0.mk (Kd.R_drew HO_101.out)
                                      have n2_ := Aside0.mk (Kd.R_drew HO274.out)
                                      have n3_ := Aside0.mk (blk_drew BK215.out)
                                      have n4_ := Aside0.mk (blk_drew BK216.out)
                                      have n5_ := Aside0.mk (blk_drew BK279.out)
                                      have n6_ := Aside0.mk (below_drew1 HB.out)
                                      clear HO_9
                                      clear HO_101
                                      clear HO274
                                      clear BK215
                                      clear BK216
                                      clear BK279
                                      clear HB
                                      have HO_9 := n0_
                                      have HO_101 := n1_
                                      have HO274 := n2_
                                      have BK215 := n3_
                                      have BK216 := n4_
                                      have BK279 := n5_
                                      have HB := n6_
                                      clear n0_ n1_ n2_ n3_ n4_ n5_ n6_
                                      refine start_ (n := 18) (S := fun w' => w'.cell? ⟨gb279, 0, none⟩ = some (.bool t275) ∧ w'.cell? ⟨gb279, 1, none⟩ = some (.int .i64 t276) ∧ w'.cell? ⟨gb279, 2, none⟩ = some (.string t277)) (ds := []) #[false, false, false, false, false, false, false, false, false, false, false, false, false, false, false, false, false, false] (by kernel_rfl) rfl rfl ⟨(blk_cell BK279.out 0).trans rfl, (blk_cell BK279.out 1).trans rfl, (blk_cell BK279.out 2).trans rfl⟩ (fun hHeld => ?_); refine with_tabW broadsidelaw3_TuplePuts.tab21 broadsidelaw3_TuplePuts.bits21 (fun HT_ HW_ => ?_)
                                      generalize w103.drew = w104 at HO_9 HO_101 HO274 BK215 BK216 BK279 HB hHeld ⊢
                                      refine pure_ (i := 0) (N := some 118) (v := ?_) (a' := ?_) #[true, false, false, false, false, false, false, false, false, false, false, false, false, false, false, false, false, false] rfl rfl (any_of HT_.out (by kernel_rfl)) (fun _ _ _ h => h) (Or.inl ⟨by rfl, ?_⟩) ?_ ?_
                                      rotate_left
                                      · intro w'
                                        go_simp
                                        with_reducible rfl
                                      rotate_left
                                      · simp only [Act.put, List.setIfInBounds_toArray, List.set_cons_zero, List.set_cons_succ, i64_w, i32_w]
                                        rfl
                                      refine pure_ (i := 1) (N := some 119) (v := ?_) (a' := ?_) #[true, true, false, false, false, false, false, false, false, false, false, false, false, false, false, false, false, false] rfl rfl (any_of HT_.out (by kernel_rfl)) (fun _ _ _ h => h) (Or.inl ⟨by rfl, ?_⟩) ?_ ?_
                                      rotate_left
                                      · intro w'
                                        go_simp
                                        with_reducible rfl
                                      rotate_left
                                      · simp only [Act.put, List.setIfInBounds_toArray, List.set_cons_zero, List.set_cons_succ, i64_w, i32_w]
                                        rfl
                                      refine pure_ (i := 2) (N := some 120) (v := ?_) (a' := ?_) #[true, true, true, false, false, false, false, false, false, false, false, false, false, false, false, false, false, false] rfl rfl (any_of HT_.out (by kernel_rfl)) (fun _ _ _ h => h) (Or.inl ⟨by rfl, ?_⟩) ?_ ?_
                                      rotate_left
                                      · intro w'
                                        go_simp
                                        with_reducible rfl
                                      rotate_left
                                      · simp only [Act.put, List.setIfInBounds_toArray, List.set_cons_zero, List.set_cons_succ, i64_w, i32_w]
                                        rfl
                                      refine pure_ (i := 4) (N := some 122) (v := ?_) (a' := ?_) #[true, true, true, false, true, false, false, false, false, false, false, false, false, false, false, false, false, false] rfl rfl (any_of HT_.out (by kernel_rfl)) (fun _ _ _ h => h) (Or.inl ⟨by rfl, ?_⟩) ?_ ?_
                                      rotate_left
                                      · intro w'
                                        go_simp
                                        with_reducible rfl
                                      rotate_left
                                      · simp only [Act.put, List.setIfInBounds_toArray, List.set_cons_zero, List.set_cons_succ, i64_w, i32_w]
                                        rfl
                                      refine take_ (i := 3) (N := some 121) (v := ?_) (a' := ?_) #[true, true, true, true, true, false, false, false, false, false, false, false, false, false, false, false, false, false] rfl rfl (take_ofW HT_.out HW_.out (by kernel_rfl)) (fun _ _ _ h => h) (Or.inl ⟨by rfl, ?_⟩) hHeld ?_ ?_
                                      rotate_left
                                      · rintro w' ⟨s0, s1, s2⟩
                                        go_simp
                                        with_reducible rfl
                                      rotate_left
                                      · simp only [Act.put, List.setIfInBounds_toArray, List.set_cons_zero, List.set_cons_succ, i64_w, i32_w]
                                        rfl
                                      refine one_ (i := 5) (N := some 123) #[true, true, true, true, true, true, false, false, false, false, false, false, false, false, false, false, false, false] rfl rfl (one_of HT_.out (by kernel_rfl)) (by decide) (fun K hK => ?_)
                                      refine goes_ Tryz.func22 (by kernel_rfl) rfl #[.int .i64 a3] (by rfl) rfl rfl (by (try simp only [List.map_toArray, List.map_cons, List.map_nil]); first | done | rfl | (simp only [List.length_drop, List.length_take]; rfl)) ?_
                                      with_reducible refine (broadsidekeep_Value.calls a3 t280 t281 t282 _ A79.out).mono ?_
                                      rintro e w105 ⟨rfl, hb⟩
                                      refine ⟨_, rfl, ?_⟩
                                      have n0_ := Aside0.mk (Kd.R_below (by (with_reducible repeat (first | apply Kd.R_alloc | apply Kd.R_drewN | apply Kd.R_drew)); exact HO_9.out) hb)
                                      have n1_ := Aside0.mk (Kd.R_below (by (with_reducible repeat (first | apply Kd.R_alloc | apply Kd.R_drewN | apply Kd.R_drew)); exact HO_101.out) hb)
                                      have n2_ := Aside0.mk (Kd.R_below (by (with_reducible repeat (first | apply Kd.R_alloc | apply Kd.R_drewN | apply Kd.R_drew)); exact HO274.out) hb)
                                      have n3_ := Aside0.mk (blk_below (g := gb215) (o := .cells #[.slice A0_0 l0_0.length c0_0, .slice A0_1 l0_1.length c0_1] 35 (0, 0)) (by (with_reducible repeat (first | refine blk_drewN ?_ _ | refine blk_drew ?_ | refine blk_alloc ?_ _)); exact BK215.out) hb)
                                      have n4_ := Aside0.mk (blk_below (g := gb216) (o := .cells #[.slice A1_0 l1_0.length c1_0, .slice A1_1 l1_1.length c1_1] 35 (0, 0)) (by (with_reducible repeat (first | refine blk_drewN ?_ _ | refine blk_drew ?_ | refine blk_alloc ?_ _)); exact BK216.out) hb)
                                      have n5_ := Aside0.mk (blk_below (g := gb279) (o := .cells #[.bool t275, .int .i64 t276, .string t277] 23 (0, 0)) (by (with_reducible repeat (first | refine blk_drewN ?_ _ | refine blk_drew ?_ | refine blk_alloc ?_ _)); exact BK279.out) hb)
                                      have n6_ := Aside0.mk (below_step (by repeat (first | (with_reducible first | exact HB.out | apply below_alloc | apply pw_below_drewN | apply below_drew1 | refine below_set ?_ GE215.out | refine below_set ?_ GE216.out | refine below_set ?_ GE279.out) | exact HB.out)) hb)
                                      clear HO_9
                                      clear HO_101
                                      clear HO274
                                      clear BK215
                                      clear BK216
                                      clear BK279
                                      clear HB
                                      have HO_9 := n0_
                                      have HO_101 := n1_
                                      have HO274 := n2_
                                      have BK215 := n3_
                                      have BK216 := n4_
                                      have BK279 := n5_
                                      have HB := n6_
                                      clear n0_ n1_ n2_ n3_ n4_ n5_ n6_
                                      (try clear hb)
                                      (try clear hb2)
                                      (try clear hk)
                                      (try clear hi)
                                      refine hK.out _ _ ⟨(blk_cell BK279.out 0).trans rfl, (blk_cell BK279.out 1).trans rfl, (blk_cell BK279.out 2).trans rfl⟩ (fun hHeld => ?_)
                                      clear hK K
                                      refine norm_ (a' := ?_) ?_ ?_
                                      rotate_left
                                      · show Act.put _ (some 123) _ = _
                                        simp only [Act.put, List.setIfInBounds_toArray, List.set_cons_zero, List.set_cons_succ, i64_w, i32_w]
                                        rfl
                                      refine pure_ (i := 6) (N := some 124) (v := ?_) (a' := ?_) #[true, true, true, true, true, true, true, false, false, false, false, false, false, false, false, false, false, false] rfl rfl (any_of HT_.out (by kernel_rfl)) (fun _ _ _ h => h) (Or.inl ⟨by rfl, ?_⟩) ?_ ?_
                                      rotate_left
                                      · intro w'
                                        go_simp
                                        with_reducible rfl
                                      rotate_left
                                      · simp only [Act.put, List.setIfInBounds_toArray, List.set_cons_zero, List.set_cons_succ, i64_w, i32_w]
                                        rfl
                                      refine pure_ (i := 7) (N := some 125) (v := ?_) (a' := ?_) #[true, true, true, true, true, true, true, true, false, false, false, false, false, false, false, false, false, false] rfl rfl (any_of HT_.out (by kernel_rfl)) (fun _ _ _ h => h) (Or.inl ⟨by rfl, ?_⟩) ?_ ?_
                                      rotate_left
                                      · intro w'
                                        go_simp
                                        with_reducible rfl
                                      rotate_left
                                      · simp only [Act.put, List.setIfInBounds_toArray, List.set_cons_zero, List.set_cons_succ, i64_w, i32_w]
                                        rfl
                                      refine pure_ (i := 8) (N := some 126) (v := ?_) (a' := ?_) #[true, true, true, true, true, true, true, true, true, false, false, false, false, false, false, false, false, false] rfl rfl (any_of HT_.out (by kernel_rfl)) (fun _ _ _ h => h) (Or.inl ⟨by rfl, ?_⟩) ?_ ?_
                                      rotate_left
                                      · intro w'
                                        go_simp
                                        with_reducible rfl
                                      rotate_left
                                      · simp only [Act.put, List.setIfInBounds_toArray, List.set_cons_zero, List.set_cons_succ, i64_w, i32_w]
                                        rfl
                                      refine pure_ (i := 9) (N := some 127) (v := ?_) (a' := ?_) #[true, true, true, true, true, true, true, true, true, true, false, false, false, false, false, false, false, false] rfl rfl (any_of HT_.out (by kernel_rfl)) (fun _ _ _ h => h) (Or.inl ⟨by rfl, ?_⟩) ?_ ?_
                                      rotate_left
                                      · intro w'
                                        go_simp
                                        with_reducible rfl
                                      rotate_left
                                      · simp only [Act.put, List.setIfInBounds_toArray, List.set_cons_zero, List.set_cons_succ, i64_w, i32_w]
                                        rfl
                                      refine pure_ (i := 10) (N := some 128) (v := ?_) (a' := ?_) #[true, true, true, true, true, true, true, true, true, true, true, false, false, false, false, false, false, false] rfl rfl (any_of HT_.out (by kernel_rfl)) (fun _ _ _ h => h) (Or.inl ⟨by rfl, ?_⟩) ?_ ?_
                                      rotate_left
                                      · intro w'
                                        go_simp
                                        with_reducible rfl
                                      rotate_left
                                      · simp only [Act.put, List.setIfInBounds_toArray, List.set_cons_zero, List.set_cons_succ, i64_w, i32_w]
                                        rfl
                                      refine pure_ (i := 11) (N := some 129) (v := ?_) (a' := ?_) #[true, true, true, true, true, true, true, true, true, true, true, true, false, false, false, false, false, false] rfl rfl (any_of HT_.out (by kernel_rfl)) (fun _ _ _ h => h) (Or.inl ⟨by rfl, ?_⟩) ?_ ?_
                                      rotate_left
                                      · intro w'
                                        go_simp
                                        with_reducible rfl
                                      rotate_left
                                      · simp only [Act.put, List.setIfInBounds_toArray, List.set_cons_zero, List.set_cons_succ, i64_w, i32_w]
                                        rfl
                                      refine pure_ (i := 12) (N := some 130) (v := ?_) (a' := ?_) #[true, true, true, true, true, true, true, true, true, true, true, true, true, false, false, false, false, false] rfl rfl (any_of HT_.out (by kernel_rfl)) (fun _ _ _ h => h) (Or.inl ⟨by rfl, ?_⟩) ?_ ?_
                                      rotate_left
                                      · intro w'
                                        go_simp
                                        with_reducible rfl
                                      rotate_left
                                      · simp only [Act.put, List.setIfInBounds_toArray, List.set_cons_zero, List.set_cons_succ, i64_w, i32_w]
                                        rfl
                                      refine pure_ (i := 13) (N := some 131) (v := ?_) (a' := ?_) #[true, true, true, true, true, true, true, true, true, true, true, true, true, true, false, false, false, false] rfl rfl (any_of HT_.out (by kernel_rfl)) (fun _ _ _ h => h) (Or.inl ⟨by rfl, ?_⟩) ?_ ?_
                                      rotate_left
                                      · intro w'
                                        go_simp
                                        with_reducible rfl
                                      rotate_left
                                      · simp only [Act.put, List.setIfInBounds_toArray, List.set_cons_zero, List.set_cons_succ, i64_w, i32_w]
                                        rfl
                                      refine one_ (i := 14) (N := some 132) #[true, true, true, true, true, true, true, true, true, true, true, true, true, true, true, false, false, false] rfl rfl (one_of HT_.out (by kernel_rfl)) (by decide) (fun K hK => ?_)
                                      refine goes_ Tryz.func11 (by kernel_rfl) rfl #[.slice Ao97 t272.length co97] (by rfl) rfl rfl (by (try simp only [List.map_toArray, List.map_cons, List.map_nil]); first | done | rfl | (simp only [List.length_drop, List.length_take]; rfl)) ?_
                                      with_reducible refine (tuple_Right.calls k4 _ _ t272 true _ ?side1 ?side2 A93.out).mono ?_
                                      (case side1 => repeat (first | exact (Kd.R_reads' HO274.out).2.2 | (with_reducible refine Kd.C_alloc ?_ _) | (with_reducible refine Kd.C_drewN ?_ _) | (with_reducible refine Kd.C_drew ?_)))
                                      (case side2 => exact (Kd.R_reads' HO274.out).2.1)
                                      rintro e w106 ⟨rfl, hb⟩
                                      refine ⟨_, rfl, ?_⟩
                                      have n0_ := Aside0.mk (Kd.R_below (by (with_reducible repeat (first | apply Kd.R_alloc | apply Kd.R_drewN | apply Kd.R_drew)); exact HO_9.out) hb)
                                      have n1_ := Aside0.mk (Kd.R_below (by (with_reducible repeat (first | apply Kd.R_alloc | apply Kd.R_drewN | apply Kd.R_drew)); exact HO_101.out) hb)
                                      have n2_ := Aside0.mk (Kd.R_below (by (with_reducible repeat (first | apply Kd.R_alloc | apply Kd.R_drewN | apply Kd.R_drew)); exact HO274.out) hb)
                                      have n3_ := Aside0.mk (blk_below (g := gb215) (o := .cells #[.slice A0_0 l0_0.length c0_0, .slice A0_1 l0_1.length c0_1] 35 (0, 0)) (by (with_reducible repeat (first | refine blk_drewN ?_ _ | refine blk_drew ?_ | refine blk_alloc ?_ _)); exact BK215.out) hb)
                                      have n4_ := Aside0.mk (blk_below (g := gb216) (o := .cells #[.slice A1_0 l1_0.length c1_0, .slice A1_1 l1_1.length c1_1] 35 (0, 0)) (by (with_reducible repeat (first | refine blk_drewN ?_ _ | refine blk_drew ?_ | refine blk_alloc ?_ _)); exact BK216.out) hb)
                                      have n5_ := Aside0.mk (blk_below (g := gb279) (o := .cells #[.bool t275, .int .i64 t276, .string t277] 23 (0, 0)) (by (with_reducible repeat (first | refine blk_drewN ?_ _ | refine blk_drew ?_ | refine blk_alloc ?_ _)); exact BK279.out) hb)
                                      have n6_ := Aside0.mk (below_step (by repeat (first | (with_reducible first | exact HB.out | apply below_alloc | apply pw_below_drewN | apply below_drew1 | refine below_set ?_ GE215.out | refine below_set ?_ GE216.out | refine below_set ?_ GE279.out) | exact HB.out)) hb)
                                      clear HO_9
                                      clear HO_101
                                      clear HO274
                                      clear BK215
                                      clear BK216
                                      clear BK279
                                      clear HB
                                      have HO_9 := n0_
                                      have HO_101 := n1_
                                      have HO274 := n2_
                                      have BK215 := n3_
                                      have BK216 := n4_
                                      have BK279 := n5_
                                      have HB := n6_
                                      clear n0_ n1_ n2_ n3_ n4_ n5_ n6_
                                      (try clear hb)
                                      (try clear hb2)
                                      (try clear hk)
                                      (try clear hi)
                                      refine hK.out _ _ ⟨(blk_cell BK279.out 0).trans rfl, (blk_cell BK279.out 1).trans rfl, (blk_cell BK279.out 2).trans rfl⟩ (fun hHeld => ?_)
                                      clear hK K
                                      refine norm_ (a' := ?_) ?_ ?_
                                      rotate_left
                                      · show Act.put _ (some 132) _ = _
                                        simp only [Act.put, List.setIfInBounds_toArray, List.set_cons_zero, List.set_cons_succ, i64_w, i32_w]
                                        rfl
                                      refine pure_ (i := 15) (N := some 133) (v := ?_) (a' := ?_) #[true, true, true, true, true, true, true, true, true, true, true, true, true, true, true, true, false, false] rfl rfl (any_of HT_.out (by kernel_rfl)) (fun _ _ _ h => h) (Or.inl ⟨by rfl, ?_⟩) ?_ ?_
                                      rotate_left
                                      · intro w'
                                        go_simp
                                        with_reducible rfl
                                      rotate_left
                                      · simp only [Act.put, List.setIfInBounds_toArray, List.set_cons_zero, List.set_cons_succ, i64_w, i32_w]
                                        rfl
                                      refine pure_ (i := 16) (N := some 134) (v := ?_) (a' := ?_) #[true, true, true, true, true, true, true, true, true, true, true, true, true, true, true, true, true, false] rfl rfl (any_of HT_.out (by kernel_rfl)) (fun _ _ _ h => h) (Or.inl ⟨by rfl, ?_⟩) ?_ ?_
                                      rotate_left
                                      · intro w'
                                        go_simp
                                        with_reducible rfl
                                      rotate_left
                                      · simp only [Act.put, List.setIfInBounds_toArray, List.set_cons_zero, List.set_cons_succ, i64_w, i32_w]
                                        rfl
                                      refine pure_ (i := 17) (N := some 135) (v := ?_) (a' := ?_) #[true, true, true, true, true, true, true, true, true, true, true, true, true, true, true, true, true, true] rfl rfl (any_of HT_.out (by kernel_rfl)) (fun _ _ _ h => h) (Or.inl ⟨by rfl, ?_⟩) ?_ ?_
                                      rotate_left
                                      · intro w'
                                        go_simp
                                        with_reducible rfl
                                      rotate_left
                                      · simp only [Act.put, List.setIfInBounds_toArray, List.set_cons_zero, List.set_cons_succ, i64_w, i32_w]
                                        rfl
                                      refine done_ (done_of HT_.out (by kernel_rfl)) ?_
                                      try go_wp2
                                      go_roundg k4
                                      case measure => have := HJ7.out; have := HK2.out; have := HJ51.out; have := HK4.out; omega
                                      case rel => exact ⟨(wrap64 (x103_4 + 1)), (by first | rfl | (simp; done) | (simp [*]; done)), H', ⟨by have := HJ7.out; have := HK2.out; have := HJ51.out; have := HK4.out; omega⟩, ⟨by (with_reducible repeat (first | apply Kd.R_alloc | apply Kd.R_drewN | apply Kd.R_drew)); exact Kd.R_mono HO_9.out (fun _ hk => trivial)⟩, ⟨by (with_reducible repeat (first | apply Kd.R_alloc | apply Kd.R_drewN | apply Kd.R_drew)); exact HO_101.out⟩, ⟨by (with_reducible repeat (first | refine blk_drewN ?_ _ | refine blk_drew ?_ | refine blk_alloc ?_ _)); exact BK215.out⟩, ⟨by (with_reducible repeat (first | refine blk_drewN ?_ _ | refine blk_drew ?_ | refine blk_alloc ?_ _)); exact BK216.out⟩, ⟨by repeat (first | (with_reducible first | exact HB.out | apply below_alloc | apply pw_below_drewN | apply below_drew1 | refine below_set ?_ GE215.out | refine below_set ?_ GE216.out | refine below_set ?_ GE279.out) | exact HB.out)⟩⟩
                                    · replace c94 := Bool.eq_false_iff.mpr c94
                                      subst c94
                                      have H1 : (some false) = some r := by rw [if_neg (show ¬ (false = true) by decide)] at H; exact H
                                      exact absurd ((Option.some.inj H1).trans HRT.out) (by decide)
                                  · rw [if_neg c92] at H
                                    have c92b0 : decide ((t272.length : Int) ≤ 5) = false := decide_eq_false c92
                                    have c92b1 : decide (t272.length ≤ 5) = false := decide_eq_false (by omega)
                                    clear c92
                                    have H' := Aside0.mk H
                                    clear H
                                    have p268 : 0 ≤ (x103_4 : Int) := of_decide_eq_true (by first | (with_reducible assumption) | assumption)
                                    have q268 : x103_4 < (t263.length : Int) := of_decide_eq_true (by first | (with_reducible assumption) | assumption)
                                    obtain ⟨ad268, e268, hx268_0⟩ := Kd.at_string (Kd.R_reads' HO_101.out).2.2 x103_4 p268 q268
                                    cases e268
                                    replace p268 := eq_true p268
                                    replace q268 := eq_true q268
                                    try go_wp2_with (first | ((with_reducible refine gate_callee (f := 22) rfl ?_); refine goesL_ (some 110) rfl rfl Tryz.func22 (by kernel_rfl) rfl #[.int .i64 a3] rfl (by (try simp only [List.map_toArray, List.map_cons, List.map_nil]); first | done | rfl | (simp only [List.length_drop, List.length_take]; rfl)) ?_; (with_reducible refine (broadsidekeep_Value.calls a3 t269 t270 t271 _ A75.out).mono ?_); rintro e w119 ⟨rfl, hb⟩; refine ⟨_, rfl, ?_⟩; have n0_ := Aside0.mk (Kd.R_below (by (with_reducible repeat (first | apply Kd.R_alloc | apply Kd.R_drewN | apply Kd.R_drew)); exact HO_9.out) hb); have n1_ := Aside0.mk (Kd.R_below (by (with_reducible repeat (first | apply Kd.R_alloc | apply Kd.R_drewN | apply Kd.R_drew)); exact HO_101.out) hb); have n2_ := Aside0.mk (blk_below (g := gb215) (o := .cells #[.slice A0_0 l0_0.length c0_0, .slice A0_1 l0_1.length c0_1] 35 (0, 0)) (by (with_reducible repeat (first | refine blk_drewN ?_ _ | refine blk_drew ?_ | refine blk_alloc ?_ _)); exact BK215.out) hb); have n3_ := Aside0.mk (blk_below (g := gb216) (o := .cells #[.slice A1_0 l1_0.length c1_0, .slice A1_1 l1_1.length c1_1] 35 (0, 0)) (by (with_reducible repeat (first | refine blk_drewN ?_ _ | refine blk_drew ?_ | refine blk_alloc ?_ _)); exact BK216.out) hb); have n4_ := Aside0.mk (below_step (by repeat (first | (with_reducible first | exact HB.out | apply below_alloc | apply pw_below_drewN | apply below_drew1 | refine below_set ?_ GE215.out | refine below_set ?_ GE216.out) | exact HB.out)) hb); clear HO_9; clear HO_101; clear BK215; clear BK216; clear HB; have HO_9 := n0_; have HO_101 := n1_; have BK215 := n2_; have BK216 := n3_; have HB := n4_; clear n0_ n1_ n2_ n3_ n4_; (try clear hb); (try clear hb2); (try clear hk); (try clear hi)) | ((with_reducible refine gate_callee (f := 10) rfl ?_); refine goesL_ (some 111) rfl rfl Tryz.func10 (by kernel_rfl) rfl #[.slice Ao17 t217.length co17, .string (rdOf ByteArray.empty t263 x103_4), .agg #[.bool t269, .int .i64 t270, .string t271]] rfl (by (try simp only [List.map_toArray, List.map_cons, List.map_nil]); first | done | rfl | (simp only [List.length_drop, List.length_take]; rfl)) ?_; (with_reducible refine (tuple_Put.calls _ _ t217 (rdOf ByteArray.empty t263 x103_4) t269 t270 t271 t272 _ ?side1 ?side2 A76.out).mono ?_); (case side1 => repeat (first | exact (Kd.R_reads' HO_9.out).2.2 | (with_reducible refine Kd.C_alloc ?_ _) | (with_reducible refine Kd.C_drewN ?_ _) | (with_reducible refine Kd.C_drew ?_))); (case side2 => exact (Kd.R_reads' HO_9.out).2.1); rintro e w120 ⟨v273, rfl, ho0, hb⟩; refine ⟨_, rfl, ?_⟩; have n0_ := Aside0.mk (Kd.R_elder' (by (with_reducible repeat (first | apply Kd.R_alloc | apply Kd.R_drewN | apply Kd.R_drew)); exact HO_9.out) (Kd.R_base ho0) hb); have n1_ := Aside0.mk (Kd.R_below (by (with_reducible repeat (first | apply Kd.R_alloc | apply Kd.R_drewN | apply Kd.R_drew)); exact HO_101.out) hb); have n2_ := Aside0.mk (Kd.R_lower (Kd.R_new' ho0 (Kd.R_lt (by (with_reducible repeat (first | apply Kd.R_alloc | apply Kd.R_drewN | apply Kd.R_drew)); exact HO_9.out))) (below_size (by repeat (first | (with_reducible first | exact HB.out | apply below_alloc | apply pw_below_drewN | apply below_drew1 | refine below_set ?_ GE215.out | refine below_set ?_ GE216.out) | exact HB.out)))); have n3_ := Aside0.mk (blk_below (g := gb215) (o := .cells #[.slice A0_0 l0_0.length c0_0, .slice A0_1 l0_1.length c0_1] 35 (0, 0)) (by (with_reducible repeat (first | refine blk_drewN ?_ _ | refine blk_drew ?_ | refine blk_alloc ?_ _)); exact BK215.out) hb); have n4_ := Aside0.mk (blk_below (g := gb216) (o := .cells #[.slice A1_0 l1_0.length c1_0, .slice A1_1 l1_1.length c1_1] 35 (0, 0)) (by (with_reducible repeat (first | refine blk_drewN ?_ _ | refine blk_drew ?_ | refine blk_alloc ?_ _)); exact BK216.out) hb); have n5_ := Aside0.mk (below_step (by repeat (first | (with_reducible first | exact HB.out | apply below_alloc | apply pw_below_drewN | apply below_drew1 | refine below_set ?_ GE215.out | refine below_set ?_ GE216.out) | exact HB.out)) hb); clear HO_9; clear HO_101; clear BK215; clear BK216; clear HB; have HO_9 := n0_; have HO_101 := n1_; have HO274 := n2_; have BK215 := n3_; have BK216 := n4_; have HB := n5_; clear n0_ n1_ n2_ n3_ n4_ n5_; (try clear hb); (try clear hb2); (try clear hk); (try clear hi); (try clear ho0); obtain ⟨Ao121, co121, eo121⟩ := Kd.R_slice HO274.out; subst eo121) | ((with_reducible refine gate_callee (f := 8) rfl ?_); refine goesL_ (some 115) rfl rfl Tryz.func8 (by kernel_rfl) rfl #[.slice Ao121 t272.length co121, .string (rdOf ByteArray.empty t263 x103_4)] rfl (by (try simp only [List.map_toArray, List.map_cons, List.map_nil]); first | done | rfl | (simp only [List.length_drop, List.length_take]; rfl)) ?_; (with_reducible refine (tuple_Get.calls k4 _ _ t272 (rdOf ByteArray.empty t263 x103_4) t275 t276 t277 true _ ?side1 ?side2 A77.out).mono ?_); (case side1 => repeat (first | exact (Kd.R_reads' HO274.out).2.2 | (with_reducible refine Kd.C_alloc ?_ _) | (with_reducible refine Kd.C_drewN ?_ _) | (with_reducible refine Kd.C_drew ?_))); (case side2 => exact (Kd.R_reads' HO274.out).2.1); rintro e w122 ⟨rfl, hb⟩; refine ⟨_, rfl, ?_⟩; have n0_ := Aside0.mk (Kd.R_below (by (with_reducible repeat (first | apply Kd.R_alloc | apply Kd.R_drewN | apply Kd.R_drew)); exact HO_9.out) hb); have n1_ := Aside0.mk (Kd.R_below (by (with_reducible repeat (first | apply Kd.R_alloc | apply Kd.R_drewN | apply Kd.R_drew)); exact HO_101.out) hb); have n2_ := Aside0.mk (Kd.R_below (by (with_reducible repeat (first | apply Kd.R_alloc | apply Kd.R_drewN | apply Kd.R_drew)); exact HO274.out) hb); have n3_ := Aside0.mk (blk_below (g := gb215) (o := .cells #[.slice A0_0 l0_0.length c0_0, .slice A0_1 l0_1.length c0_1] 35 (0, 0)) (by (with_reducible repeat (first | refine blk_drewN ?_ _ | refine blk_drew ?_ | refine blk_alloc ?_ _)); exact BK215.out) hb); have n4_ := Aside0.mk (blk_below (g := gb216) (o := .cells #[.slice A1_0 l1_0.length c1_0, .slice A1_1 l1_1.length c1_1] 35 (0, 0)) (by (with_reducible repeat (first | refine blk_drewN ?_ _ | refine blk_drew ?_ | refine blk_alloc ?_ _)); exact BK216.out) hb); have n5_ := Aside0.mk (below_step (by repeat (first | (with_reducible first | exact HB.out | apply below_alloc | apply pw_below_drewN | apply below_drew1 | refine below_set ?_ GE215.out | refine below_set ?_ GE216.out) | exact HB.out)) hb); clear HO_9; clear HO_101; clear HO274; clear BK215; clear BK216; clear HB; have HO_9 := n0_; have HO_101 := n1_; have HO274 := n2_; have BK215 := n3_; have BK216 := n4_; have HB := n5_; clear n0_ n1_ n2_ n3_ n4_ n5_; (try clear hb); (try clear hb2); (try clear hk); (try clear hi)) | ((with_reducible refine gate_dst (N := 20) rfl ?_); (try (refine gate_guard (by rfl) ?_; dsimp only)); refine box_event ?hg (N := 20) ?hd (cs := #[.bool false, .int .i64 0, .string (⟨#[]⟩ : ByteArray)]) (t := 23) ?hr ?_; (case hd => rfl); (case hg => rfl); (case hr => first | (go_simp; done) | (go_simp; rfl)); intro gb279 hg w123 hbox hb; have n0_ := Aside0.mk (Kd.R_below (by (with_reducible repeat (first | apply Kd.R_alloc | apply Kd.R_drewN | apply Kd.R_drew)); exact HO_9.out) hb); have n1_ := Aside0.mk (Kd.R_below (by (with_reducible repeat (first | apply Kd.R_alloc | apply Kd.R_drewN | apply Kd.R_drew)); exact HO_101.out) hb); have n2_ := Aside0.mk (Kd.R_below (by (with_reducible repeat (first | apply Kd.R_alloc | apply Kd.R_drewN | apply Kd.R_drew)); exact HO274.out) hb); have n3_ := Aside0.mk (blk_below (g := gb215) (o := .cells #[.slice A0_0 l0_0.length c0_0, .slice A0_1 l0_1.length c0_1] 35 (0, 0)) (by (with_reducible repeat (first | refine blk_drewN ?_ _ | refine blk_drew ?_ | refine blk_alloc ?_ _)); exact BK215.out) hb); have n4_ := Aside0.mk (blk_below (g := gb216) (o := .cells #[.slice A1_0 l1_0.length c1_0, .slice A1_1 l1_1.length c1_1] 35 (0, 0)) (by (with_reducible repeat (first | refine blk_drewN ?_ _ | refine blk_drew ?_ | refine blk_alloc ?_ _)); exact BK216.out) hb); have n5_ := Aside0.mk (below_step (by repeat (first | (with_reducible first | exact HB.out | apply below_alloc | apply pw_below_drewN | apply below_drew1 | refine below_set ?_ GE215.out | refine below_set ?_ GE216.out) | exact HB.out)) hb); have n6_ := Aside0.mk (hbox); have n7_ := Aside0.mk ((by rw [hg]; exact (below_size (by repeat (first | (with_reducible first | exact HB.out | apply below_alloc | apply pw_below_drewN | apply below_drew1 | refine below_set ?_ GE215.out | refine below_set ?_ GE216.out) | exact HB.out))) : w.heap.size ≤ gb279)); have n8_ := Aside0.mk ((by rw [hg]; exact (below_size (by repeat (first | (with_reducible first | exact HB.out | apply below_alloc | apply pw_below_drewN | apply below_drew1 | refine below_set ?_ GE215.out | refine below_set ?_ GE216.out) | exact HB.out))) : w.heap.size ≤ gb279)); have n9_ := Aside0.mk ((by rw [hg]; exact Nat.ne_of_lt (blk_lt (g := gb215) (o := .cells #[.slice A0_0 l0_0.length c0_0, .slice A0_1 l0_1.length c0_1] 35 (0, 0)) (by (with_reducible repeat (first | refine blk_drewN ?_ _ | refine blk_drew ?_ | refine blk_alloc ?_ _)); exact BK215.out)) : gb215 ≠ gb279)); have n10_ := Aside0.mk ((by rw [hg]; exact Nat.ne_of_gt (blk_lt (g := gb215) (o := .cells #[.slice A0_0 l0_0.length c0_0, .slice A0_1 l0_1.length c0_1] 35 (0, 0)) (by (with_reducible repeat (first | refine blk_drewN ?_ _ | refine blk_drew ?_ | refine blk_alloc ?_ _)); exact BK215.out)) : gb279 ≠ gb215)); have n11_ := Aside0.mk ((by rw [hg]; exact Nat.ne_of_lt (blk_lt (g := gb216) (o := .cells #[.slice A1_0 l1_0.length c1_0, .slice A1_1 l1_1.length c1_1] 35 (0, 0)) (by (with_reducible repeat (first | refine blk_drewN ?_ _ | refine blk_drew ?_ | refine blk_alloc ?_ _)); exact BK216.out)) : gb216 ≠ gb279)); have n12_ := Aside0.mk ((by rw [hg]; exact Nat.ne_of_gt (blk_lt (g := gb216) (o := .cells #[.slice A1_0 l1_0.length c1_0, .slice A1_1 l1_1.length c1_1] 35 (0, 0)) (by (with_reducible repeat (first | refine blk_drewN ?_ _ | refine blk_drew ?_ | refine blk_alloc ?_ _)); exact BK216.out)) : gb279 ≠ gb216)); clear HO_9; clear HO_101; clear HO274; clear BK215; clear BK216; clear HB; have HO_9 := n0_; have HO_101 := n1_; have HO274 := n2_; have BK215 := n3_; have BK216 := n4_; have HB := n5_; have BK279 := n6_; have GW279 := n7_; have GE279 := n8_; have NB215_279 := n9_; have NB279_215 := n10_; have NB216_279 := n11_; have NB279_216 := n12_; clear n0_ n1_ n2_ n3_ n4_ n5_ n6_ n7_ n8_ n9_ n10_ n11_ n12_; clear hb hbox hg; have hnb124 := NB279_215.out; have hnc124 := NB215_279.out; have hnb125 := NB279_216.out; have hnc125 := NB216_279.out; have hcz126_0 : w123.cell? ⟨gb279, 0, none⟩ = some (.bool false) := (blk_cell BK279.out 0).trans rfl; have hcz126_1 : w123.cell? ⟨gb279, 1, none⟩ = some (.int .i64 0) := (blk_cell BK279.out 1).trans rfl; have hcz126_2 : w123.cell? ⟨gb279, 2, none⟩ = some (.string (⟨#[]⟩ : ByteArray)) := (blk_cell BK279.out 2).trans rfl; have hfz126_0 := blk_frozen BK279.out 0; have hfz126_1 := blk_frozen BK279.out 1; have hfz126_2 := blk_frozen BK279.out 2))
                                    have n0_ : Aside0 (Kd.R k25 25 (((w123.setCell ⟨gb279, 0, none⟩ (.bool t275)).setCell ⟨gb279, 1, none⟩ (.int .i64 t276)).setCell ⟨gb279, 2, none⟩ (.string t277)) w.heap.size (fun k_ => some k_ ≠ (.slice Ao121 t272.length co121 : Value).ownBlock) (.slice Ao17 t217.length co17) t217) := ⟨by (with_reducible repeat (first | apply Kd.R_alloc | apply Kd.R_drewN | apply Kd.R_drew)); exact Kd.R_mono (Kd.R_far (p := ⟨gb279, 2, none⟩) (Kd.R_far (p := ⟨gb279, 1, none⟩) (Kd.R_far (p := ⟨gb279, 0, none⟩) (Kd.R_types HO_9.out BK279.out (by decide)) (fun _ hk => hk.2) (.bool t275)) (fun _ hk => hk.2) (.int .i64 t276)) (fun _ hk => hk.2) (.string t277)) (fun _ hk => hk.1.2)⟩
                                    have n1_ : Aside0 (Kd.R Kd.string 9 (((w123.setCell ⟨gb279, 0, none⟩ (.bool t275)).setCell ⟨gb279, 1, none⟩ (.int .i64 t276)).setCell ⟨gb279, 2, none⟩ (.string t277)) w.heap.size (fun _ => True) (.slice (some ad268) t263.length co71) t263) := ⟨by (with_reducible repeat (first | apply Kd.R_alloc | apply Kd.R_drewN | apply Kd.R_drew)); exact Kd.R_mono (Kd.R_far (p := ⟨gb279, 2, none⟩) (Kd.R_far (p := ⟨gb279, 1, none⟩) (Kd.R_far (p := ⟨gb279, 0, none⟩) (Kd.R_types HO_101.out BK279.out (by decide)) (fun _ hk => hk.2) (.bool t275)) (fun _ hk => hk.2) (.int .i64 t276)) (fun _ hk => hk.2) (.string t277)) (fun _ hk => trivial)⟩
                                    have n2_ : Aside0 (Kd.R k25 25 (((w123.setCell ⟨gb279, 0, none⟩ (.bool t275)).setCell ⟨gb279, 1, none⟩ (.int .i64 t276)).setCell ⟨gb279, 2, none⟩ (.string t277)) w.heap.size (fun k_ => some k_ ≠ (.slice Ao17 t217.length co17 : Value).ownBlock) (.slice Ao121 t272.length co121) t272) := ⟨by (with_reducible repeat (first | apply Kd.R_alloc | apply Kd.R_drewN | apply Kd.R_drew)); exact Kd.R_mono (Kd.R_far (p := ⟨gb279, 2, none⟩) (Kd.R_far (p := ⟨gb279, 1, none⟩) (Kd.R_far (p := ⟨gb279, 0, none⟩) (Kd.R_types HO274.out BK279.out (by decide)) (fun _ hk => hk.2) (.bool t275)) (fun _ hk => hk.2) (.int .i64 t276)) (fun _ hk => hk.2) (.string t277)) (fun _ hk => hk.1.2)⟩
                                    have n3_ : Aside0 ((((w123.setCell ⟨gb279, 0, none⟩ (.bool t275)).setCell ⟨gb279, 1, none⟩ (.int .i64 t276)).setCell ⟨gb279, 2, none⟩ (.string t277)).heap[gb215]? = some (.cells #[.slice A0_0 l0_0.length c0_0, .slice A0_1 l0_1.length c0_1] 35 (0, 0))) := ⟨by (with_reducible repeat (first | refine blk_drewN ?_ _ | refine blk_drew ?_ | refine blk_alloc ?_ _)); refine blk_far ?_ NB215_279.out _; (with_reducible repeat (first | refine blk_drewN ?_ _ | refine blk_drew ?_ | refine blk_alloc ?_ _)); refine blk_far ?_ NB215_279.out _; (with_reducible repeat (first | refine blk_drewN ?_ _ | refine blk_drew ?_ | refine blk_alloc ?_ _)); refine blk_far ?_ NB215_279.out _; (with_reducible repeat (first | refine blk_drewN ?_ _ | refine blk_drew ?_ | refine blk_alloc ?_ _)); exact BK215.out⟩
                                    have n4_ : Aside0 ((((w123.setCell ⟨gb279, 0, none⟩ (.bool t275)).setCell ⟨gb279, 1, none⟩ (.int .i64 t276)).setCell ⟨gb279, 2, none⟩ (.string t277)).heap[gb216]? = some (.cells #[.slice A1_0 l1_0.length c1_0, .slice A1_1 l1_1.length c1_1] 35 (0, 0))) := ⟨by (with_reducible repeat (first | refine blk_drewN ?_ _ | refine blk_drew ?_ | refine blk_alloc ?_ _)); refine blk_far ?_ NB216_279.out _; (with_reducible repeat (first | refine blk_drewN ?_ _ | refine blk_drew ?_ | refine blk_alloc ?_ _)); refine blk_far ?_ NB216_279.out _; (with_reducible repeat (first | refine blk_drewN ?_ _ | refine blk_drew ?_ | refine blk_alloc ?_ _)); refine blk_far ?_ NB216_279.out _; (with_reducible repeat (first | refine blk_drewN ?_ _ | refine blk_drew ?_ | refine blk_alloc ?_ _)); exact BK216.out⟩
                                    have n5_ : Aside0 ((((w123.setCell ⟨gb279, 0, none⟩ (.bool t275)).setCell ⟨gb279, 1, none⟩ (.int .i64 t276)).setCell ⟨gb279, 2, none⟩ (.string t277)).heap[gb279]? = some (.cells #[.bool t275, .int .i64 t276, .string t277] 23 (0, 0))) := ⟨by (with_reducible repeat (first | refine blk_drewN ?_ _ | refine blk_drew ?_ | refine blk_alloc ?_ _)); refine blk_put (cs := #[.bool t275, .int .i64 t276, .string (⟨#[]⟩ : ByteArray)]) ?_ 2 _ rfl; (with_reducible repeat (first | refine blk_drewN ?_ _ | refine blk_drew ?_ | refine blk_alloc ?_ _)); refine blk_put (cs := #[.bool t275, .int .i64 0, .string (⟨#[]⟩ : ByteArray)]) ?_ 1 _ rfl; (with_reducible repeat (first | refine blk_drewN ?_ _ | refine blk_drew ?_ | refine blk_alloc ?_ _)); refine blk_put (cs := #[.bool false, .int .i64 0, .string (⟨#[]⟩ : ByteArray)]) ?_ 0 _ rfl; (with_reducible repeat (first | refine blk_drewN ?_ _ | refine blk_drew ?_ | refine blk_alloc ?_ _)); exact BK279.out⟩
                                    have n6_ : Aside0 (Below w.heap.size w (((w123.setCell ⟨gb279, 0, none⟩ (.bool t275)).setCell ⟨gb279, 1, none⟩ (.int .i64 t276)).setCell ⟨gb279, 2, none⟩ (.string t277))) := ⟨by repeat (first | (with_reducible first | exact HB.out | apply below_alloc | apply pw_below_drewN | apply below_drew1 | refine below_set ?_ GE215.out | refine below_set ?_ GE216.out | refine below_set ?_ GE279.out) | exact HB.out)⟩
                                    (try clear HO_9)
                                    (try clear HO_101)
                                    (try clear HO274)
                                    (try clear BK215)
                                    (try clear BK216)
                                    (try clear BK279)
                                    (try clear HB)
                                    generalize (((w123.setCell ⟨gb279, 0, none⟩ (.bool t275)).setCell ⟨gb279, 1, none⟩ (.int .i64 t276)).setCell ⟨gb279, 2, none⟩ (.string t277)) = w127 at n0_ n1_ n2_ n3_ n4_ n5_ n6_ ⊢
                                    have HO_9 := n0_
                                    have HO_101 := n1_
                                    have HO274 := n2_
                                    have BK215 := n3_
                                    have BK216 := n4_
                                    have BK279 := n5_
                                    have HB := n6_
                                    clear n0_ n1_ n2_ n3_ n4_ n5_ n6_
                                    have n0_ := Aside0.mk (Kd.R_drew HO_9.out)
                                    have n1_ := Aside0.mk (Kd.R_drew HO_101.out)
                                    have n2_ := Aside0.mk (Kd.R_drew HO274.out)
                                    have n3_ := Aside0.mk (blk_drew BK215.out)
                                    have n4_ := Aside0.mk (blk_drew BK216.out)
                                    have n5_ := Aside0.mk (blk_drew BK279.out)
                                    have n6_ := Aside0.mk (below_drew1 HB.out)
                                    clear HO_9
                                    clear HO_101
                                    clear HO274
                                    clear BK215
                                    clear BK216
                                    clear BK279
                                    clear HB
                                    have HO_9 := n0_
                                    have HO_101 := n1_
                                    have HO274 := n2_
                                    have BK215 := n3_
                                    have BK216 := n4_
                                    have BK279 := n5_
                                    have HB := n6_
                                    clear n0_ n1_ n2_ n3_ n4_ n5_ n6_
                                    refine start_ (n := 18) (S := fun w' => w'.cell? ⟨gb279, 0, none⟩ = some (.bool t275) ∧ w'.cell? ⟨gb279, 1, none⟩ = some (.int .i64 t276) ∧ w'.cell? ⟨gb279, 2, none⟩ = some (.string t277)) (ds := []) #[false, false, false, false, false, false, false, false, false, false, false, false, false, false, false, false, false, false] (by kernel_rfl) rfl rfl ⟨(blk_cell BK279.out 0).trans rfl, (blk_cell BK279.out 1).trans rfl, (blk_cell BK279.out 2).trans rfl⟩ (fun hHeld => ?_); refine with_tabW broadsidelaw3_TuplePuts.tab21 broadsidelaw3_TuplePuts.bits21 (fun HT_ HW_ => ?_)
                                    generalize w127.drew = w128 at HO_9 HO_101 HO274 BK215 BK216 BK279 HB hHeld ⊢
                                    refine pure_ (i := 0) (N := some 118) (v := ?_) (a' := ?_) #[true, false, false, false, false, false, false, false, false, false, false, false, false, false, false, false, false, false] rfl rfl (any_of HT_.out (by kernel_rfl)) (fun _ _ _ h => h) (Or.inl ⟨by rfl, ?_⟩) ?_ ?_
                                    rotate_left
                                    · intro w'
                                      go_simp
                                      with_reducible rfl
                                    rotate_left
                                    · simp only [Act.put, List.setIfInBounds_toArray, List.set_cons_zero, List.set_cons_succ, i64_w, i32_w]
                                      rfl
                                    refine pure_ (i := 1) (N := some 119) (v := ?_) (a' := ?_) #[true, true, false, false, false, false, false, false, false, false, false, false, false, false, false, false, false, false] rfl rfl (any_of HT_.out (by kernel_rfl)) (fun _ _ _ h => h) (Or.inl ⟨by rfl, ?_⟩) ?_ ?_
                                    rotate_left
                                    · intro w'
                                      go_simp
                                      with_reducible rfl
                                    rotate_left
                                    · simp only [Act.put, List.setIfInBounds_toArray, List.set_cons_zero, List.set_cons_succ, i64_w, i32_w]
                                      rfl
                                    refine pure_ (i := 2) (N := some 120) (v := ?_) (a' := ?_) #[true, true, true, false, false, false, false, false, false, false, false, false, false, false, false, false, false, false] rfl rfl (any_of HT_.out (by kernel_rfl)) (fun _ _ _ h => h) (Or.inl ⟨by rfl, ?_⟩) ?_ ?_
                                    rotate_left
                                    · intro w'
                                      go_simp
                                      with_reducible rfl
                                    rotate_left
                                    · simp only [Act.put, List.setIfInBounds_toArray, List.set_cons_zero, List.set_cons_succ, i64_w, i32_w]
                                      rfl
                                    refine pure_ (i := 4) (N := some 122) (v := ?_) (a' := ?_) #[true, true, true, false, true, false, false, false, false, false, false, false, false, false, false, false, false, false] rfl rfl (any_of HT_.out (by kernel_rfl)) (fun _ _ _ h => h) (Or.inl ⟨by rfl, ?_⟩) ?_ ?_
                                    rotate_left
                                    · intro w'
                                      go_simp
                                      with_reducible rfl
                                    rotate_left
                                    · simp only [Act.put, List.setIfInBounds_toArray, List.set_cons_zero, List.set_cons_succ, i64_w, i32_w]
                                      rfl
                                    refine take_ (i := 3) (N := some 121) (v := ?_) (a' := ?_) #[true, true, true, true, true, false, false, false, false, false, false, false, false, false, false, false, false, false] rfl rfl (take_ofW HT_.out HW_.out (by kernel_rfl)) (fun _ _ _ h => h) (Or.inl ⟨by rfl, ?_⟩) hHeld ?_ ?_
                                    rotate_left
                                    · rintro w' ⟨s0, s1, s2⟩
                                      go_simp
                                      with_reducible rfl
                                    rotate_left
                                    · simp only [Act.put, List.setIfInBounds_toArray, List.set_cons_zero, List.set_cons_succ, i64_w, i32_w]
                                      rfl
                                    refine one_ (i := 5) (N := some 123) #[true, true, true, true, true, true, false, false, false, false, false, false, false, false, false, false, false, false] rfl rfl (one_of HT_.out (by kernel_rfl)) (by decide) (fun K hK => ?_)
                                    refine goes_ Tryz.func22 (by kernel_rfl) rfl #[.int .i64 a3] (by rfl) rfl rfl (by (try simp only [List.map_toArray, List.map_cons, List.map_nil]); first | done | rfl | (simp only [List.length_drop, List.length_take]; rfl)) ?_
                                    with_reducible refine (broadsidekeep_Value.calls a3 t280 t281 t282 _ A79.out).mono ?_
                                    rintro e w129 ⟨rfl, hb⟩
                                    refine ⟨_, rfl, ?_⟩
                                    have n0_ := Aside0.mk (Kd.R_below (by (with_reducible repeat (first | apply Kd.R_alloc | apply Kd.R_drewN | apply Kd.R_drew)); exact HO_9.out) hb)
                                    have n1_ := Aside0.mk (Kd.R_below (by (with_reducible repeat (first | apply Kd.R_alloc | apply Kd.R_drewN | apply Kd.R_drew)); exact HO_101.out) hb)
                                    have n2_ := Aside0.mk (Kd.R_below (by (with_reducible repeat (first | apply Kd.R_alloc | apply Kd.R_drewN | apply Kd.R_drew)); exact HO274.out) hb)
                                    have n3_ := Aside0.mk (blk_below (g := gb215) (o := .cells #[.slice A0_0 l0_0.length c0_0, .slice A0_1 l0_1.length c0_1] 35 (0, 0)) (by (with_reducible repeat (first | refine blk_drewN ?_ _ | refine blk_drew ?_ | refine blk_alloc ?_ _)); exact BK215.out) hb)
                                    have n4_ := Aside0.mk (blk_below (g := gb216) (o := .cells #[.slice A1_0 l1_0.length c1_0, .slice A1_1 l1_1.length c1_1] 35 (0, 0)) (by (with_reducible repeat (first | refine blk_drewN ?_ _ | refine blk_drew ?_ | refine blk_alloc ?_ _)); exact BK216.out) hb)
                                    have n5_ := Aside0.mk (blk_below (g := gb279) (o := .cells #[.bool t275, .int .i64 t276, .string t277] 23 (0, 0)) (by (with_reducible repeat (first | refine blk_drewN ?_ _ | refine blk_drew ?_ | refine blk_alloc ?_ _)); exact BK279.out) hb)
                                    have n6_ := Aside0.mk (below_step (by repeat (first | (with_reducible first | exact HB.out | apply below_alloc | apply pw_below_drewN | apply below_drew1 | refine below_set ?_ GE215.out | refine below_set ?_ GE216.out | refine below_set ?_ GE279.out) | exact HB.out)) hb)
                                    clear HO_9
                                    clear HO_101
                                    clear HO274
                                    clear BK215
                                    clear BK216
                                    clear BK279
                                    clear HB
                                    have HO_9 := n0_
                                    have HO_101 := n1_
                                    have HO274 := n2_
                                    have BK215 := n3_
                                    have BK216 := n4_
                                    have BK279 := n5_
                                    have HB := n6_
                                    clear n0_ n1_ n2_ n3_ n4_ n5_ n6_
                                    (try clear hb)
                                    (try clear hb2)
                                    (try clear hk)
                                    (try clear hi)
                                    refine hK.out _ _ ⟨(blk_cell BK279.out 0).trans rfl, (blk_cell BK279.out 1).trans rfl, (blk_cell BK279.out 2).trans rfl⟩ (fun hHeld => ?_)
                                    clear hK K
                                    refine norm_ (a' := ?_) ?_ ?_
                                    rotate_left
                                    · show Act.put _ (some 123) _ = _
                                      simp only [Act.put, List.setIfInBounds_toArray, List.set_cons_zero, List.set_cons_succ, i64_w, i32_w]
                                      rfl
                                    refine pure_ (i := 6) (N := some 124) (v := ?_) (a' := ?_) #[true, true, true, true, true, true, true, false, false, false, false, false, false, false, false, false, false, false] rfl rfl (any_of HT_.out (by kernel_rfl)) (fun _ _ _ h => h) (Or.inl ⟨by rfl, ?_⟩) ?_ ?_
                                    rotate_left
                                    · intro w'
                                      go_simp
                                      with_reducible rfl
                                    rotate_left
                                    · simp only [Act.put, List.setIfInBounds_toArray, List.set_cons_zero, List.set_cons_succ, i64_w, i32_w]
                                      rfl
                                    refine pure_ (i := 7) (N := some 125) (v := ?_) (a' := ?_) #[true, true, true, true, true, true, true, true, false, false, false, false, false, false, false, false, false, false] rfl rfl (any_of HT_.out (by kernel_rfl)) (fun _ _ _ h => h) (Or.inl ⟨by rfl, ?_⟩) ?_ ?_
                                    rotate_left
                                    · intro w'
                                      go_simp
                                      with_reducible rfl
                                    rotate_left
                                    · simp only [Act.put, List.setIfInBounds_toArray, List.set_cons_zero, List.set_cons_succ, i64_w, i32_w]
                                      rfl
                                    refine pure_ (i := 8) (N := some 126) (v := ?_) (a' := ?_) #[true, true, true, true, true, true, true, true, true, false, false, false, false, false, false, false, false, false] rfl rfl (any_of HT_.out (by kernel_rfl)) (fun _ _ _ h => h) (Or.inl ⟨by rfl, ?_⟩) ?_ ?_
                                    rotate_left
                                    · intro w'
                                      go_simp
                                      with_reducible rfl
                                    rotate_left
                                    · simp only [Act.put, List.setIfInBounds_toArray, List.set_cons_zero, List.set_cons_succ, i64_w, i32_w]
                                      rfl
                                    refine pure_ (i := 9) (N := some 127) (v := ?_) (a' := ?_) #[true, true, true, true, true, true, true, true, true, true, false, false, false, false, false, false, false, false] rfl rfl (any_of HT_.out (by kernel_rfl)) (fun _ _ _ h => h) (Or.inl ⟨by rfl, ?_⟩) ?_ ?_
                                    rotate_left
                                    · intro w'
                                      go_simp
                                      with_reducible rfl
                                    rotate_left
                                    · simp only [Act.put, List.setIfInBounds_toArray, List.set_cons_zero, List.set_cons_succ, i64_w, i32_w]
                                      rfl
                                    refine pure_ (i := 10) (N := some 128) (v := ?_) (a' := ?_) #[true, true, true, true, true, true, true, true, true, true, true, false, false, false, false, false, false, false] rfl rfl (any_of HT_.out (by kernel_rfl)) (fun _ _ _ h => h) (Or.inl ⟨by rfl, ?_⟩) ?_ ?_
                                    rotate_left
                                    · intro w'
                                      go_simp
                                      with_reducible rfl
                                    rotate_left
                                    · simp only [Act.put, List.setIfInBounds_toArray, List.set_cons_zero, List.set_cons_succ, i64_w, i32_w]
                                      rfl
                                    refine pure_ (i := 11) (N := some 129) (v := ?_) (a' := ?_) #[true, true, true, true, true, true, true, true, true, true, true, true, false, false, false, false, false, false] rfl rfl (any_of HT_.out (by kernel_rfl)) (fun _ _ _ h => h) (Or.inl ⟨by rfl, ?_⟩) ?_ ?_
                                    rotate_left
                                    · intro w'
                                      go_simp
                                      with_reducible rfl
                                    rotate_left
                                    · simp only [Act.put, List.setIfInBounds_toArray, List.set_cons_zero, List.set_cons_succ, i64_w, i32_w]
                                      rfl
                                    refine pure_ (i := 12) (N := some 130) (v := ?_) (a' := ?_) #[true, true, true, true, true, true, true, true, true, true, true, true, true, false, false, false, false, false] rfl rfl (any_of HT_.out (by kernel_rfl)) (fun _ _ _ h => h) (Or.inl ⟨by rfl, ?_⟩) ?_ ?_
                                    rotate_left
                                    · intro w'
                                      go_simp
                                      with_reducible rfl
                                    rotate_left
                                    · simp only [Act.put, List.setIfInBounds_toArray, List.set_cons_zero, List.set_cons_succ, i64_w, i32_w]
                                      rfl
                                    refine pure_ (i := 13) (N := some 131) (v := undef) (a' := ?_) #[true, true, true, true, true, true, true, true, true, true, true, true, true, true, false, false, false, false] rfl rfl (any_of HT_.out (by kernel_rfl)) (fun _ _ _ h => h) (Or.inr ⟨by rfl, rfl⟩) ?_ ?_
                                    rotate_left
                                    · simp only [Act.put, List.setIfInBounds_toArray, List.set_cons_zero, List.set_cons_succ, i64_w, i32_w]
                                      rfl
                                    refine pure_ (i := 14) (N := some 132) (v := undef) (a' := ?_) #[true, true, true, true, true, true, true, true, true, true, true, true, true, true, true, false, false, false] rfl rfl (any_of HT_.out (by kernel_rfl)) (fun _ _ _ h => h) (Or.inr ⟨by rfl, rfl⟩) ?_ ?_
                                    rotate_left
                                    · simp only [Act.put, List.setIfInBounds_toArray, List.set_cons_zero, List.set_cons_succ, i64_w, i32_w]
                                      rfl
                                    refine pure_ (i := 15) (N := some 133) (v := undef) (a' := ?_) #[true, true, true, true, true, true, true, true, true, true, true, true, true, true, true, true, false, false] rfl rfl (any_of HT_.out (by kernel_rfl)) (fun _ _ _ h => h) (Or.inr ⟨by rfl, rfl⟩) ?_ ?_
                                    rotate_left
                                    · simp only [Act.put, List.setIfInBounds_toArray, List.set_cons_zero, List.set_cons_succ, i64_w, i32_w]
                                      rfl
                                    refine pure_ (i := 16) (N := some 134) (v := ?_) (a' := ?_) #[true, true, true, true, true, true, true, true, true, true, true, true, true, true, true, true, true, false] rfl rfl (any_of HT_.out (by kernel_rfl)) (fun _ _ _ h => h) (Or.inl ⟨by rfl, ?_⟩) ?_ ?_
                                    rotate_left
                                    · intro w'
                                      go_simp
                                      with_reducible rfl
                                    rotate_left
                                    · simp only [Act.put, List.setIfInBounds_toArray, List.set_cons_zero, List.set_cons_succ, i64_w, i32_w]
                                      rfl
                                    refine pure_ (i := 17) (N := some 135) (v := ?_) (a' := ?_) #[true, true, true, true, true, true, true, true, true, true, true, true, true, true, true, true, true, true] rfl rfl (any_of HT_.out (by kernel_rfl)) (fun _ _ _ h => h) (Or.inl ⟨by rfl, ?_⟩) ?_ ?_
                                    rotate_left
                                    · intro w'
                                      go_simp
                                      with_reducible rfl
                                    rotate_left
                                    · simp only [Act.put, List.setIfInBounds_toArray, List.set_cons_zero, List.set_cons_succ, i64_w, i32_w]
                                      rfl
                                    refine done_ (done_of HT_.out (by kernel_rfl)) ?_
                                    try go_wp2
                                    go_roundg k4
                                    case measure => have := HJ7.out; have := HK2.out; have := HJ51.out; have := HK4.out; omega
                                    case rel => exact ⟨(wrap64 (x103_4 + 1)), (by first | rfl | (simp; done) | (simp [*]; done)), H', ⟨by have := HJ7.out; have := HK2.out; have := HJ51.out; have := HK4.out; omega⟩, ⟨by (with_reducible repeat (first | apply Kd.R_alloc | apply Kd.R_drewN | apply Kd.R_drew)); exact Kd.R_mono HO_9.out (fun _ hk => trivial)⟩, ⟨by (with_reducible repeat (first | apply Kd.R_alloc | apply Kd.R_drewN | apply Kd.R_drew)); exact HO_101.out⟩, ⟨by (with_reducible repeat (first | refine blk_drewN ?_ _ | refine blk_drew ?_ | refine blk_alloc ?_ _)); exact BK215.out⟩, ⟨by (with_reducible repeat (first | refine blk_drewN ?_ _ | refine blk_drew ?_ | refine blk_alloc ?_ _)); exact BK216.out⟩, ⟨by repeat (first | (with_reducible first | exact HB.out | apply below_alloc | apply pw_below_drewN | apply below_drew1 | refine below_set ?_ GE215.out | refine below_set ?_ GE216.out | refine below_set ?_ GE279.out) | exact HB.out)⟩⟩
                              · replace c78 := Bool.eq_false_iff.mpr c78
                                subst c78
                                have H1 : (some false) = some r := by rw [if_neg (show ¬ (false = true) by decide)] at H; exact H
                                exact absurd ((Option.some.inj H1).trans HRT.out) (by decide)
                            · rw [if_neg c74] at H
                              exact absurd H (by simp)
                          · rw [if_neg c73] at H
                            exact absurd H (by simp)
                        · rw [if_neg c72] at H
                          have c72b0 : decide (x103_4 < (t263.length : Int)) = false := decide_eq_false c72
                          clear c72
                          replace H := Option.bind_eq_some_iff.mp H
                          obtain ⟨t266, A1400, H⟩ := H
                          replace H : (if t266 = true then ((broadsidelaw3_TupleRuns.f k4).bind fun t267 => (some t267)) else (some false)) = some r := H
                          have A140 := Aside0.mk A1400
                          clear A1400
                          by_cases c141 : t266 = true
                          · subst c141
                            have H1 : ((broadsidelaw3_TupleRuns.f k4).bind fun t267 => (some t267)) = some r := by rw [if_pos rfl] at H; exact H
                            clear H
                            have H := H1
                            clear H1
                            replace H := Option.bind_eq_some_iff.mp H
                            obtain ⟨t267, A1420, H⟩ := H
                            replace H : (some t267) = some r := H
                            have A142 := Aside0.mk A1420
                            clear A1420
                            obtain rfl := Option.some.inj H
                            go_wp2_with (first | ((with_reducible refine gate_callee (f := 11) rfl ?_); refine goesL_ (some 138) rfl rfl Tryz.func11 (by kernel_rfl) rfl #[.slice Ao17 t217.length co17] rfl (by (try simp only [List.map_toArray, List.map_cons, List.map_nil]); first | done | rfl | (simp only [List.length_drop, List.length_take]; rfl)) ?_; (with_reducible refine (tuple_Right.calls k4 _ _ t217 true _ ?side1 ?side2 A140.out).mono ?_); (case side1 => repeat (first | exact (Kd.R_reads' HO_9.out).2.2 | (with_reducible refine Kd.C_alloc ?_ _) | (with_reducible refine Kd.C_drewN ?_ _) | (with_reducible refine Kd.C_drew ?_))); (case side2 => exact (Kd.R_reads' HO_9.out).2.1); rintro e w143 ⟨rfl, hb⟩; refine ⟨_, rfl, ?_⟩; have n0_ := Aside0.mk (Kd.R_below (by (with_reducible repeat (first | apply Kd.R_alloc | apply Kd.R_drewN | apply Kd.R_drew)); exact HO_9.out) hb); have n1_ := Aside0.mk (Kd.R_below (by (with_reducible repeat (first | apply Kd.R_alloc | apply Kd.R_drewN | apply Kd.R_drew)); exact HO_101.out) hb); have n2_ := Aside0.mk (blk_below (g := gb215) (o := .cells #[.slice A0_0 l0_0.length c0_0, .slice A0_1 l0_1.length c0_1] 35 (0, 0)) (by (with_reducible repeat (first | refine blk_drewN ?_ _ | refine blk_drew ?_ | refine blk_alloc ?_ _)); exact BK215.out) hb); have n3_ := Aside0.mk (blk_below (g := gb216) (o := .cells #[.slice A1_0 l1_0.length c1_0, .slice A1_1 l1_1.length c1_1] 35 (0, 0)) (by (with_reducible repeat (first | refine blk_drewN ?_ _ | refine blk_drew ?_ | refine blk_alloc ?_ _)); exact BK216.out) hb); have n4_ := Aside0.mk (below_step (by repeat (first | (with_reducible first | exact HB.out | apply below_alloc | apply pw_below_drewN | apply below_drew1 | refine below_set ?_ GE215.out | refine below_set ?_ GE216.out) | exact HB.out)) hb); clear HO_9; clear HO_101; clear BK215; clear BK216; clear HB; have HO_9 := n0_; have HO_101 := n1_; have BK215 := n2_; have BK216 := n3_; have HB := n4_; clear n0_ n1_ n2_ n3_ n4_; (try clear hb); (try clear hb2); (try clear hk); (try clear hi)) | (go_at_call 3; (with_reducible refine (broadsidelaw3_TupleRuns.calls k4  t267 _ (Val.tb HTAB (by repeat (first | (with_reducible first | exact HB.out | apply below_alloc | apply pw_below_drewN | apply below_drew1 | refine below_set ?_ GE215.out | refine below_set ?_ GE216.out | refine below_set ?_ GE253.out | refine below_set ?_ GE279.out) | exact HB.out))) A142.out).mono ?_); rintro e w144 ⟨rfl, hb⟩; have n0_ := Aside0.mk (Kd.R_below (by (with_reducible repeat (first | apply Kd.R_alloc | apply Kd.R_drewN | apply Kd.R_drew)); exact HO_9.out) hb); have n1_ := Aside0.mk (Kd.R_below (by (with_reducible repeat (first | apply Kd.R_alloc | apply Kd.R_drewN | apply Kd.R_drew)); exact HO_101.out) hb); have n2_ := Aside0.mk (blk_below (g := gb215) (o := .cells #[.slice A0_0 l0_0.length c0_0, .slice A0_1 l0_1.length c0_1] 35 (0, 0)) (by (with_reducible repeat (first | refine blk_drewN ?_ _ | refine blk_drew ?_ | refine blk_alloc ?_ _)); exact BK215.out) hb); have n3_ := Aside0.mk (blk_below (g := gb216) (o := .cells #[.slice A1_0 l1_0.length c1_0, .slice A1_1 l1_1.length c1_1] 35 (0, 0)) (by (with_reducible repeat (first | refine blk_drewN ?_ _ | refine blk_drew ?_ | refine blk_alloc ?_ _)); exact BK216.out) hb); have n4_ := Aside0.mk (below_step (by repeat (first | (with_reducible first | exact HB.out | apply below_alloc | apply pw_below_drewN | apply below_drew1 | refine below_set ?_ GE215.out | refine below_set ?_ GE216.out) | exact HB.out)) hb); clear HO_9; clear HO_101; clear BK215; clear BK216; clear HB; have HO_9 := n0_; have HO_101 := n1_; have BK215 := n2_; have BK216 := n3_; have HB := n4_; clear n0_ n1_ n2_ n3_ n4_; (try clear hb); (try clear hb2); (try clear hk); (try clear hi)))
                            go_ret
                            exact ⟨by first | rfl | (simp [errW_none, errW_some] <;> rfl) | (simp [*, errW_none, errW_some] <;> rfl), by repeat (first | (with_reducible first | exact HB.out | apply below_alloc | apply pw_below_drewN | apply below_drew1 | refine below_set ?_ GE215.out | refine below_set ?_ GE216.out) | exact HB.out)⟩
                          · replace c141 := Bool.eq_false_iff.mpr c141
                            subst c141
                            have H1 : (some false) = some r := by rw [if_neg (show ¬ (false = true) by decide)] at H; exact H
                            exact absurd ((Option.some.inj H1).trans HRT.out) (by decide)
  · rw [if_neg c7] at H
    exact absurd H (by simp)

end Go.Proofs.YtgdieejhglhkcaaGreatDoor.MTup
