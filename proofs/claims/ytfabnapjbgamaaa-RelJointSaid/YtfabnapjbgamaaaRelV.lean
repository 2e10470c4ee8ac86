import Derived.Test.YtfabnapjbgamaaaRelA
import Derived.Test.YtfabnapjbgamaaaRelH
namespace Go.Proofs.Ytfabnapjbgamaaa.MRelTrue
open Go.RowKit Go.Lib Go.Proofs.YtfabnapjbgamaaaW.PrintWords Go.Proofs.YtfabnapjbgamaaaW.PrintLast Go.Proofs.YtfabnapjbgamaaaW.PrintMore
set_option linter.unusedVariables false
set_option linter.unusedSimpArgs false

def ref_Both.f (a0 : ByteArray) (a1 a2 a3 : Int) (a4 : ByteArray) (b0 : ByteArray) (b1 b2 b3 : Int) (b4 : ByteArray) : Option (ByteArray × Int × Int × Int × ByteArray × Bool) :=
  if a1 = 1 then (if b1 = 1 then some (a0, a1, mx a2 b2, mn a3 b3, a4, decide (mx a2 b2 ≤ mn a3 b3)) else some (a0, a1, a2, a3, a4, false))
  else if b1 = 1 then some (a0, a1, a2, a3, a4, false)
  else if a1 = 2 then (broadsideref1_Holds.f b0 b1 b2 b3 b4 true 0 a4).bind fun h => some (a0, a1, a2, a3, a4, h)
  else if b1 = 2 then (broadsideref1_Holds.f a0 a1 a2 a3 a4 true 0 b4).bind fun h => some (b0, b1, b2, b3, b4, h)
  else if (b4.size : Int) ≤ (a4.size : Int) then (broadsideref1_begins.f a4 b4).bind fun h => some (a0, a1, a2, a3, a4, h)
  else (broadsideref1_begins.f b4 a4).bind fun h => some (b0, b1, b2, b3, b4, h)

theorem pred_Both.mv {w w1 : World} (h : Below w.heap.size w w1) {g : Nat} {c : Obj} (k : w.heap[g]? = some c) : w1.heap[g]? = some c := (h.block g (blk_lt k)).trans k

set_option maxHeartbeats 4000000 in
set_option maxRecDepth 100000 in
theorem ref_Both.r0 (a0 : ByteArray) (a1 a2 a3 : Int) (a4 : ByteArray) (b0 : ByteArray) (b1 b2 b3 : Int) (b4 : ByteArray) (w : World) (k1 : (a1 == 1) = true) (k2 : (b1 == 1) = true) (m1 : ¬ a2 < b2) (m2 : ¬ b3 < a3) :
    Calls Try.prog 40 #[.agg #[.string a0, .int .i64 a1, .int .i64 a2, .int .i64 a3, .string a4], .agg #[.string b0, .int .i64 b1, .int .i64 b2, .int .i64 b3, .string b4]] w fun e w' => e = .returned (.tuple #[.agg #[.string a0, .int .i64 a1, .int .i64 a2, .int .i64 a3, .string a4], .bool (decide (a2 ≤ a3))]) ∧ Below w.heap.size w w' := by
  have hu23 := Try.underlying23
  go_enter Try.func40, Try.ntmps40
  go_wp2
  go_region
  go_wp2
  go_region
  go_wp2
  refine bodyPost_ret (v := .tuple #[.agg #[.string a0, .int .i64 a1, .int .i64 a2, .int .i64 a3, .string a4], .bool (decide (a2 ≤ a3))]) (by simp [results, Try.results40, go_sem]) rfl ⟨rfl, ?_⟩
  repeat (with_reducible first | exact Below.refl _ _ | apply below_alloc | apply pw_below_drewN | apply below_drew1 | refine below_set ?_ (by omega))

set_option maxHeartbeats 4000000 in
set_option maxRecDepth 100000 in
theorem ref_Both.r1 (a0 : ByteArray) (a1 a2 a3 : Int) (a4 : ByteArray) (b0 : ByteArray) (b1 b2 b3 : Int) (b4 : ByteArray) (w : World) (k1 : (a1 == 1) = true) (k2 : (b1 == 1) = true) (m1 : ¬ a2 < b2) (m2 : b3 < a3) :
    Calls Try.prog 40 #[.agg #[.string a0, .int .i64 a1, .int .i64 a2, .int .i64 a3, .string a4], .agg #[.string b0, .int .i64 b1, .int .i64 b2, .int .i64 b3, .string b4]] w fun e w' => e = .returned (.tuple #[.agg #[.string a0, .int .i64 a1, .int .i64 a2, .int .i64 b3, .string a4], .bool (decide (a2 ≤ b3))]) ∧ Below w.heap.size w w' := by
  have hu23 := Try.underlying23
  go_enter Try.func40, Try.ntmps40
  go_wp2
  go_region
  go_wp2
  go_region
  go_wp2
  refine bodyPost_ret (v := .tuple #[.agg #[.string a0, .int .i64 a1, .int .i64 a2, .int .i64 b3, .string a4], .bool (decide (a2 ≤ b3))]) (by simp [results, Try.results40, go_sem]) rfl ⟨rfl, ?_⟩
  repeat (with_reducible first | exact Below.refl _ _ | apply below_alloc | apply pw_below_drewN | apply below_drew1 | refine below_set ?_ (by omega))

set_option maxHeartbeats 4000000 in
set_option maxRecDepth 100000 in
theorem ref_Both.r2 (a0 : ByteArray) (a1 a2 a3 : Int) (a4 : ByteArray) (b0 : ByteArray) (b1 b2 b3 : Int) (b4 : ByteArray) (w : World) (k1 : (a1 == 1) = true) (k2 : (b1 == 1) = true) (m1 : a2 < b2) (m2 : ¬ b3 < a3) :
    Calls Try.prog 40 #[.agg #[.string a0, .int .i64 a1, .int .i64 a2, .int .i64 a3, .string a4], .agg #[.string b0, .int .i64 b1, .int .i64 b2, .int .i64 b3, .string b4]] w fun e w' => e = .returned (.tuple #[.agg #[.string a0, .int .i64 a1, .int .i64 b2, .int .i64 a3, .string a4], .bool (decide (b2 ≤ a3))]) ∧ Below w.heap.size w w' := by
  have hu23 := Try.underlying23
  go_enter Try.func40, Try.ntmps40
  go_wp2
  go_region
  go_wp2
  go_region
  go_wp2
  refine bodyPost_ret (v := .tuple #[.agg #[.string a0, .int .i64 a1, .int .i64 b2, .int .i64 a3, .string a4], .bool (decide (b2 ≤ a3))]) (by simp [results, Try.results40, go_sem]) rfl ⟨rfl, ?_⟩
  repeat (with_reducible first | exact Below.refl _ _ | apply below_alloc | apply pw_below_drewN | apply below_drew1 | refine below_set ?_ (by omega))

set_option maxHeartbeats 4000000 in
set_option maxRecDepth 100000 in
theorem ref_Both.r3 (a0 : ByteArray) (a1 a2 a3 : Int) (a4 : ByteArray) (b0 : ByteArray) (b1 b2 b3 : Int) (b4 : ByteArray) (w : World) (k1 : (a1 == 1) = true) (k2 : (b1 == 1) = true) (m1 : a2 < b2) (m2 : b3 < a3) :
    Calls Try.prog 40 #[.agg #[.string a0, .int .i64 a1, .int .i64 a2, .int .i64 a3, .string a4], .agg #[.string b0, .int .i64 b1, .int .i64 b2, .int .i64 b3, .string b4]] w fun e w' => e = .returned (.tuple #[.agg #[.string a0, .int .i64 a1, .int .i64 b2, .int .i64 b3, .string a4], .bool (decide (b2 ≤ b3))]) ∧ Below w.heap.size w w' := by
  have hu23 := Try.underlying23
  go_enter Try.func40, Try.ntmps40
  go_wp2
  go_region
  go_wp2
  go_region
  go_wp2
  refine bodyPost_ret (v := .tuple #[.agg #[.string a0, .int .i64 a1, .int .i64 b2, .int .i64 b3, .string a4], .bool (decide (b2 ≤ b3))]) (by simp [results, Try.results40, go_sem]) rfl ⟨rfl, ?_⟩
  repeat (with_reducible first | exact Below.refl _ _ | apply below_alloc | apply pw_below_drewN | apply below_drew1 | refine below_set ?_ (by omega))

set_option maxHeartbeats 4000000 in
set_option maxRecDepth 100000 in
theorem ref_Both.x0 (a0 : ByteArray) (a1 a2 a3 : Int) (a4 : ByteArray) (b0 : ByteArray) (b1 b2 b3 : Int) (b4 : ByteArray) (w : World) (k1 : (a1 == 1) = true) (k2 : (b1 == 1) = false) :
    Calls Try.prog 40 #[.agg #[.string a0, .int .i64 a1, .int .i64 a2, .int .i64 a3, .string a4], .agg #[.string b0, .int .i64 b1, .int .i64 b2, .int .i64 b3, .string b4]] w fun e w' => e = .returned (.tuple #[.agg #[.string a0, .int .i64 a1, .int .i64 a2, .int .i64 a3, .string a4], .bool false]) ∧ Below w.heap.size w w' := by
  have hu23 := Try.underlying23
  go_enter Try.func40, Try.ntmps40
  go_wp2
  refine bodyPost_ret (v := .tuple #[.agg #[.string a0, .int .i64 a1, .int .i64 a2, .int .i64 a3, .string a4], .bool false]) (by simp [results, Try.results40, go_sem]) rfl ⟨rfl, ?_⟩
  repeat (with_reducible first | exact Below.refl _ _ | apply below_alloc | apply pw_below_drewN | apply below_drew1 | refine below_set ?_ (by omega))

set_option maxHeartbeats 4000000 in
set_option maxRecDepth 100000 in
theorem ref_Both.x1 (a0 : ByteArray) (a1 a2 a3 : Int) (a4 : ByteArray) (b0 : ByteArray) (b1 b2 b3 : Int) (b4 : ByteArray) (w : World) (k1 : (a1 == 1) = false) (k2 : (b1 == 1) = true) :
    Calls Try.prog 40 #[.agg #[.string a0, .int .i64 a1, .int .i64 a2, .int .i64 a3, .string a4], .agg #[.string b0, .int .i64 b1, .int .i64 b2, .int .i64 b3, .string b4]] w fun e w' => e = .returned (.tuple #[.agg #[.string a0, .int .i64 a1, .int .i64 a2, .int .i64 a3, .string a4], .bool false]) ∧ Below w.heap.size w w' := by
  have hu23 := Try.underlying23
  go_enter Try.func40, Try.ntmps40
  go_wp2
  refine bodyPost_ret (v := .tuple #[.agg #[.string a0, .int .i64 a1, .int .i64 a2, .int .i64 a3, .string a4], .bool false]) (by simp [results, Try.results40, go_sem]) rfl ⟨rfl, ?_⟩
  repeat (with_reducible first | exact Below.refl _ _ | apply below_alloc | apply pw_below_drewN | apply below_drew1 | refine below_set ?_ (by omega))

set_option maxHeartbeats 4000000 in
set_option maxRecDepth 100000 in
theorem ref_Both.ha (a0 : ByteArray) (a1 a2 a3 : Int) (a4 : ByteArray) (b0 : ByteArray) (b1 b2 b3 : Int) (b4 : ByteArray) (w : World) (k1 : (a1 == 1) = false) (k2 : (b1 == 1) = false) (k3 : (a1 == 2) = true) (r : Bool) (hH : Aside0 (broadsideref1_Holds.f b0 b1 b2 b3 b4 true 0 a4 = some r)) :
    Calls Try.prog 40 #[.agg #[.string a0, .int .i64 a1, .int .i64 a2, .int .i64 a3, .string a4], .agg #[.string b0, .int .i64 b1, .int .i64 b2, .int .i64 b3, .string b4]] w fun e w' => e = .returned (.tuple #[.agg #[.string a0, .int .i64 a1, .int .i64 a2, .int .i64 a3, .string a4], .bool r]) ∧ Below w.heap.size w w' := by
  have hu23 := Try.underlying23
  go_enter Try.func40, Try.ntmps40
  have hu40 := Try.underlying40
  go_wp2_with fail
  have ⟨W, hW⟩ : ∃ x, x = ((w.alloc (.cells #[.string a0, .int .i64 a1, .int .i64 a2, .int .i64 a3, .string a4] 23)).alloc (.cells #[.string b0, .int .i64 b1, .int .i64 b2, .int .i64 b3, .string b4] 23)).alloc (.cells #[.string (⟨#[]⟩ : ByteArray), .int .i64 0, .int .i64 0, .int .i64 0, .string (⟨#[]⟩ : ByteArray)] 23) := ⟨_, rfl⟩
  have B0 : W.heap[w.heap.size]? = some (.cells #[.string a0, .int .i64 a1, .int .i64 a2, .int .i64 a3, .string a4] 23 (0, 0)) := by rw [hW]; exact pred_Both.up (pred_Both.up (pred_Both.top _ _ rfl) _) _
  have B1 : W.heap[w.heap.size + 1]? = some (.cells #[.string b0, .int .i64 b1, .int .i64 b2, .int .i64 b3, .string b4] 23 (0, 0)) := by rw [hW]; exact pred_Both.up (pred_Both.top _ _ (by simp)) _
  have B2 : W.heap[w.heap.size + 1 + 1]? = some (.cells #[.string (⟨#[]⟩ : ByteArray), .int .i64 0, .int .i64 0, .int .i64 0, .string (⟨#[]⟩ : ByteArray)] 23 (0, 0)) := by rw [hW]; exact pred_Both.top _ _ (by simp)
  have HB : Below w.heap.size w W := by rw [hW]; repeat (first | exact Below.refl _ _ | apply below_alloc)
  rw [← hW]
  clear hW
  have hS : ∀ w', Below W.heap.size W w' → w'.cell? ⟨w.heap.size, 0, none⟩ = some (.string a0) ∧ w'.cell? ⟨w.heap.size, 1, none⟩ = some (.int .i64 a1) ∧ w'.cell? ⟨w.heap.size, 2, none⟩ = some (.int .i64 a2) ∧ w'.cell? ⟨w.heap.size, 3, none⟩ = some (.int .i64 a3) ∧ w'.cell? ⟨w.heap.size, 4, none⟩ = some (.string a4) ∧ w'.cell? ⟨w.heap.size + 1, 0, none⟩ = some (.string b0) ∧ w'.cell? ⟨w.heap.size + 1, 1, none⟩ = some (.int .i64 b1) ∧ w'.cell? ⟨w.heap.size + 1, 2, none⟩ = some (.int .i64 b2) ∧ w'.cell? ⟨w.heap.size + 1, 3, none⟩ = some (.int .i64 b3) ∧ w'.cell? ⟨w.heap.size + 1, 4, none⟩ = some (.string b4) := fun w' hw => ⟨pw_cell_below hw ((blk_cell B0 0).trans rfl), pw_cell_below hw ((blk_cell B0 1).trans rfl), pw_cell_below hw ((blk_cell B0 2).trans rfl), pw_cell_below hw ((blk_cell B0 3).trans rfl), pw_cell_below hw ((blk_cell B0 4).trans rfl), pw_cell_below hw ((blk_cell B1 0).trans rfl), pw_cell_below hw ((blk_cell B1 1).trans rfl), pw_cell_below hw ((blk_cell B1 2).trans rfl), pw_cell_below hw ((blk_cell B1 3).trans rfl), pw_cell_below hw ((blk_cell B1 4).trans rfl)⟩
  refine start_ (n := 8) (S := fun w' => w'.cell? ⟨w.heap.size, 0, none⟩ = some (.string a0) ∧ w'.cell? ⟨w.heap.size, 1, none⟩ = some (.int .i64 a1) ∧ w'.cell? ⟨w.heap.size, 2, none⟩ = some (.int .i64 a2) ∧ w'.cell? ⟨w.heap.size, 3, none⟩ = some (.int .i64 a3) ∧ w'.cell? ⟨w.heap.size, 4, none⟩ = some (.string a4) ∧ w'.cell? ⟨w.heap.size + 1, 0, none⟩ = some (.string b0) ∧ w'.cell? ⟨w.heap.size + 1, 1, none⟩ = some (.int .i64 b1) ∧ w'.cell? ⟨w.heap.size + 1, 2, none⟩ = some (.int .i64 b2) ∧ w'.cell? ⟨w.heap.size + 1, 3, none⟩ = some (.int .i64 b3) ∧ w'.cell? ⟨w.heap.size + 1, 4, none⟩ = some (.string b4)) (ds := [6]) #[false, false, false, false, false, false, false, false] (by kernel_rfl) rfl rfl (hS _ (below_drew1 (Below.refl _ _))) (fun hHeld => ?_)
  have hW0 : Below W.heap.size W W.drew := below_drew1 (Below.refl _ _)
  have hSz := fun (w' : World) (hw : Below W.drew.heap.size W.drew w') => hS w' (below_step hW0 hw)
  have C2 := pred_Both.mv hW0 B2
  have HB0 := below_step HB hW0
  clear hS B0 B1 B2 HB hW0
  generalize W.drew = W0 at C2 HB0 hHeld hSz ⊢
  refine take_ (i := 0) (N := (some 47)) (v := ?_) (a' := ?_) #[true, false, false, false, false, false, false, false] rfl rfl (by kernel_rfl) (fun _ _ _ h => h) (Or.inl ⟨by rfl, ?_⟩) hHeld ?_ ?_
  rotate_left
  · rintro w' ⟨s0, s1, s2, s3, s4, s5, s6, s7, s8, s9⟩
    go_simp
    with_reducible rfl
  rotate_left
  · simp only [Act.put, List.setIfInBounds_toArray, List.set_cons_zero, List.set_cons_succ, i64_w, i32_w]
    rfl
  refine take_ (i := 1) (N := (some 48)) (v := ?_) (a' := ?_) #[true, true, false, false, false, false, false, false] rfl rfl (by kernel_rfl) (fun _ _ _ h => h) (Or.inl ⟨by rfl, ?_⟩) hHeld ?_ ?_
  rotate_left
  · rintro w' ⟨s0, s1, s2, s3, s4, s5, s6, s7, s8, s9⟩
    go_simp
    with_reducible rfl
  rotate_left
  · simp only [Act.put, List.setIfInBounds_toArray, List.set_cons_zero, List.set_cons_succ, i64_w, i32_w]
    rfl
  refine pure_ (i := 2) (N := (some 49)) (v := ?_) (a' := ?_) #[true, true, true, false, false, false, false, false] rfl rfl (by kernel_rfl) (fun _ _ _ h => h) (Or.inl ⟨by rfl, ?_⟩) ?_ ?_
  rotate_left
  · intro w'
    go_simp
    with_reducible rfl
  rotate_left
  · simp only [Act.put, List.setIfInBounds_toArray, List.set_cons_zero, List.set_cons_succ, i64_w, i32_w]
    rfl
  refine take_ (i := 3) (N := (some 50)) (v := ?_) (a' := ?_) #[true, true, true, true, false, false, false, false] rfl rfl (by kernel_rfl) (fun _ _ _ h => h) (Or.inl ⟨by rfl, ?_⟩) hHeld ?_ ?_
  rotate_left
  · rintro w' ⟨s0, s1, s2, s3, s4, s5, s6, s7, s8, s9⟩
    go_simp
    with_reducible rfl
  rotate_left
  · simp only [Act.put, List.setIfInBounds_toArray, List.set_cons_zero, List.set_cons_succ, i64_w, i32_w]
    rfl
  refine pure_ (i := 4) (N := (some 51)) (v := ?_) (a' := ?_) #[true, true, true, true, true, false, false, false] rfl rfl (by kernel_rfl) (fun _ _ _ h => h) (Or.inl ⟨by rfl, ?_⟩) ?_ ?_
  rotate_left
  · intro w'
    go_simp
    with_reducible rfl
  rotate_left
  · simp only [Act.put, List.setIfInBounds_toArray, List.set_cons_zero, List.set_cons_succ, i64_w, i32_w]
    rfl
  refine one_ (i := 5) (N := (some 52)) #[true, true, true, true, true, true, false, false] rfl rfl (by kernel_rfl) (by decide) (fun K hK => ?_)
  refine goes_ Try.func21 (by kernel_rfl) rfl #[.agg #[.string b0, .int .i64 b1, .int .i64 b2, .int .i64 b3, .string b4], .agg #[.bool true, .int .i64 0, .string a4]] (by rfl) rfl rfl (by (try simp only [List.map_toArray, List.map_cons, List.map_nil]); first | done | rfl) ?_
  refine (broadsideref1_Holds.calls b0 b1 b2 b3 b4 true 0 a4 r W0 hH.out).mono ?_
  rintro e W1 ⟨rfl, hbc⟩
  refine ⟨_, rfl, ?_⟩
  have hz1 := pred_Both.mv hbc C2
  have HB1 := below_step HB0 hbc
  have hsz : w.heap.size + 1 + 1 < W1.heap.size := blk_lt hz1
  refine hK.out _ _ (hSz _ hbc) (fun hHeld => ?_)
  clear hK K hSz C2 HB0 hbc
  refine norm_ (a' := ?_) ?_ ?_
  rotate_left
  · show Act.put _ (some 52) _ = _
    simp only [Act.put, List.setIfInBounds_toArray, List.set_cons_zero, List.set_cons_succ, i64_w, i32_w]
    rfl
  have hv0 := (blk_cell hz1 0).trans rfl
  have hv1 := (blk_cell hz1 1).trans rfl
  have hv2 := (blk_cell hz1 2).trans rfl
  have hv3 := (blk_cell hz1 3).trans rfl
  have hv4 := (blk_cell hz1 4).trans rfl
  have hfz : ∀ j, W1.frozen? ⟨w.heap.size + 1 + 1, j, none⟩ = false := fun j => blk_frozen hz1 j
  refine last_ (i := 6) (N := none) #[true, true, true, true, true, true, true, false] rfl rfl (by kernel_rfl) (by decide) (fun K hK => ?_)
  refine skip_ (w1 := (((((W1.setCell ⟨w.heap.size + 1 + 1, 0, none⟩ (.string a0)).setCell ⟨w.heap.size + 1 + 1, 1, none⟩ (.int .i64 a1)).setCell ⟨w.heap.size + 1 + 1, 2, none⟩ (.int .i64 a2)).setCell ⟨w.heap.size + 1 + 1, 3, none⟩ (.int .i64 a3)).setCell ⟨w.heap.size + 1 + 1, 4, none⟩ (.string a4))) (by rfl) rfl (by go_simp) ?_
  refine hK.out _ _ ?_
  clear hK K
  refine pure_ (i := 7) (N := (some 5)) (v := ?_) (a' := ?_) #[true, true, true, true, true, true, true, true] rfl rfl (by kernel_rfl) (fun _ _ _ h => h) (Or.inl ⟨by rfl, ?_⟩) ?_ ?_
  rotate_left
  · intro w'
    go_simp
    with_reducible rfl
  rotate_left
  · simp only [Act.put, List.setIfInBounds_toArray, List.set_cons_zero, List.set_cons_succ, i64_w, i32_w]
    rfl
  refine done_ (by kernel_rfl) ?_
  have hz2 : (((((W1.setCell ⟨w.heap.size + 1 + 1, 0, none⟩ (.string a0)).setCell ⟨w.heap.size + 1 + 1, 1, none⟩ (.int .i64 a1)).setCell ⟨w.heap.size + 1 + 1, 2, none⟩ (.int .i64 a2)).setCell ⟨w.heap.size + 1 + 1, 3, none⟩ (.int .i64 a3)).setCell ⟨w.heap.size + 1 + 1, 4, none⟩ (.string a4)).heap[w.heap.size + 1 + 1]? = some (.cells #[.string a0, .int .i64 a1, .int .i64 a2, .int .i64 a3, .string a4] 23 (0, 0)) := by simpa using (blk_set (blk_set (blk_set (blk_set (blk_set hz1 0 (.string a0)) 1 (.int .i64 a1)) 2 (.int .i64 a2)) 3 (.int .i64 a3)) 4 (.string a4))
  have HB2 : Below w.heap.size w (((((W1.setCell ⟨w.heap.size + 1 + 1, 0, none⟩ (.string a0)).setCell ⟨w.heap.size + 1 + 1, 1, none⟩ (.int .i64 a1)).setCell ⟨w.heap.size + 1 + 1, 2, none⟩ (.int .i64 a2)).setCell ⟨w.heap.size + 1 + 1, 3, none⟩ (.int .i64 a3)).setCell ⟨w.heap.size + 1 + 1, 4, none⟩ (.string a4)) := by repeat (first | exact HB1 | refine below_set ?_ (by omega))
  generalize (((((W1.setCell ⟨w.heap.size + 1 + 1, 0, none⟩ (.string a0)).setCell ⟨w.heap.size + 1 + 1, 1, none⟩ (.int .i64 a1)).setCell ⟨w.heap.size + 1 + 1, 2, none⟩ (.int .i64 a2)).setCell ⟨w.heap.size + 1 + 1, 3, none⟩ (.int .i64 a3)).setCell ⟨w.heap.size + 1 + 1, 4, none⟩ (.string a4)) = W2 at hz2 HB2 ⊢
  clear hv0 hv1 hv2 hv3 hv4 hfz hz1 hHeld
  have q2 := fun i => blk_cell hz2 i
  go_wp2
  refine bodyPost_ret (v := .tuple #[.agg #[.string a0, .int .i64 a1, .int .i64 a2, .int .i64 a3, .string a4], .bool r]) (by simp [results, Try.results40, go_sem, q2]) rfl ⟨rfl, ?_⟩
  clear q2 hz2
  repeat (with_reducible first | exact HB2 | apply below_alloc | apply pw_below_drewN | apply below_drew1)

set_option maxHeartbeats 4000000 in
set_option maxRecDepth 100000 in
theorem ref_Both.hb (a0 : ByteArray) (a1 a2 a3 : Int) (a4 : ByteArray) (b0 : ByteArray) (b1 b2 b3 : Int) (b4 : ByteArray) (w : World) (k1 : (a1 == 1) = false) (k2 : (b1 == 1) = false) (k3 : (a1 == 2) = false) (k4 : (b1 == 2) = true) (r : Bool) (hH : Aside0 (broadsideref1_Holds.f a0 a1 a2 a3 a4 true 0 b4 = some r)) :
    Calls Try.prog 40 #[.agg #[.string a0, .int .i64 a1, .int .i64 a2, .int .i64 a3, .string a4], .agg #[.string b0, .int .i64 b1, .int .i64 b2, .int .i64 b3, .string b4]] w fun e w' => e = .returned (.tuple #[.agg #[.string b0, .int .i64 b1, .int .i64 b2, .int .i64 b3, .string b4], .bool r]) ∧ Below w.heap.size w w' := by
  have hu23 := Try.underlying23
  go_enter Try.func40, Try.ntmps40
  have hu40 := Try.underlying40
  go_wp2_with fail
  have ⟨W, hW⟩ : ∃ x, x = ((w.alloc (.cells #[.string a0, .int .i64 a1, .int .i64 a2, .int .i64 a3, .string a4] 23)).alloc (.cells #[.string b0, .int .i64 b1, .int .i64 b2, .int .i64 b3, .string b4] 23)).alloc (.cells #[.string (⟨#[]⟩ : ByteArray), .int .i64 0, .int .i64 0, .int .i64 0, .string (⟨#[]⟩ : ByteArray)] 23) := ⟨_, rfl⟩
  have B0 : W.heap[w.heap.size]? = some (.cells #[.string a0, .int .i64 a1, .int .i64 a2, .int .i64 a3, .string a4] 23 (0, 0)) := by rw [hW]; exact pred_Both.up (pred_Both.up (pred_Both.top _ _ rfl) _) _
  have B1 : W.heap[w.heap.size + 1]? = some (.cells #[.string b0, .int .i64 b1, .int .i64 b2, .int .i64 b3, .string b4] 23 (0, 0)) := by rw [hW]; exact pred_Both.up (pred_Both.top _ _ (by simp)) _
  have B2 : W.heap[w.heap.size + 1 + 1]? = some (.cells #[.string (⟨#[]⟩ : ByteArray), .int .i64 0, .int .i64 0, .int .i64 0, .string (⟨#[]⟩ : ByteArray)] 23 (0, 0)) := by rw [hW]; exact pred_Both.top _ _ (by simp)
  have HB : Below w.heap.size w W := by rw [hW]; repeat (first | exact Below.refl _ _ | apply below_alloc)
  rw [← hW]
  clear hW
  have hS : ∀ w', Below W.heap.size W w' → w'.cell? ⟨w.heap.size, 0, none⟩ = some (.string a0) ∧ w'.cell? ⟨w.heap.size, 1, none⟩ = some (.int .i64 a1) ∧ w'.cell? ⟨w.heap.size, 2, none⟩ = some (.int .i64 a2) ∧ w'.cell? ⟨w.heap.size, 3, none⟩ = some (.int .i64 a3) ∧ w'.cell? ⟨w.heap.size, 4, none⟩ = some (.string a4) ∧ w'.cell? ⟨w.heap.size + 1, 0, none⟩ = some (.string b0) ∧ w'.cell? ⟨w.heap.size + 1, 1, none⟩ = some (.int .i64 b1) ∧ w'.cell? ⟨w.heap.size + 1, 2, none⟩ = some (.int .i64 b2) ∧ w'.cell? ⟨w.heap.size + 1, 3, none⟩ = some (.int .i64 b3) ∧ w'.cell? ⟨w.heap.size + 1, 4, none⟩ = some (.string b4) := fun w' hw => ⟨pw_cell_below hw ((blk_cell B0 0).trans rfl), pw_cell_below hw ((blk_cell B0 1).trans rfl), pw_cell_below hw ((blk_cell B0 2).trans rfl), pw_cell_below hw ((blk_cell B0 3).trans rfl), pw_cell_below hw ((blk_cell B0 4).trans rfl), pw_cell_below hw ((blk_cell B1 0).trans rfl), pw_cell_below hw ((blk_cell B1 1).trans rfl), pw_cell_below hw ((blk_cell B1 2).trans rfl), pw_cell_below hw ((blk_cell B1 3).trans rfl), pw_cell_below hw ((blk_cell B1 4).trans rfl)⟩
  refine start_ (n := 8) (S := fun w' => w'.cell? ⟨w.heap.size, 0, none⟩ = some (.string a0) ∧ w'.cell? ⟨w.heap.size, 1, none⟩ = some (.int .i64 a1) ∧ w'.cell? ⟨w.heap.size, 2, none⟩ = some (.int .i64 a2) ∧ w'.cell? ⟨w.heap.size, 3, none⟩ = some (.int .i64 a3) ∧ w'.cell? ⟨w.heap.size, 4, none⟩ = some (.string a4) ∧ w'.cell? ⟨w.heap.size + 1, 0, none⟩ = some (.string b0) ∧ w'.cell? ⟨w.heap.size + 1, 1, none⟩ = some (.int .i64 b1) ∧ w'.cell? ⟨w.heap.size + 1, 2, none⟩ = some (.int .i64 b2) ∧ w'.cell? ⟨w.heap.size + 1, 3, none⟩ = some (.int .i64 b3) ∧ w'.cell? ⟨w.heap.size + 1, 4, none⟩ = some (.string b4)) (ds := [6]) #[false, false, false, false, false, false, false, false] (by kernel_rfl) rfl rfl (hS _ (below_drew1 (Below.refl _ _))) (fun hHeld => ?_)
  have hW0 : Below W.heap.size W W.drew := below_drew1 (Below.refl _ _)
  have hSz := fun (w' : World) (hw : Below W.drew.heap.size W.drew w') => hS w' (below_step hW0 hw)
  have C2 := pred_Both.mv hW0 B2
  have HB0 := below_step HB hW0
  clear hS B0 B1 B2 HB hW0
  generalize W.drew = W0 at C2 HB0 hHeld hSz ⊢
  refine take_ (i := 0) (N := (some 57)) (v := ?_) (a' := ?_) #[true, false, false, false, false, false, false, false] rfl rfl (by kernel_rfl) (fun _ _ _ h => h) (Or.inl ⟨by rfl, ?_⟩) hHeld ?_ ?_
  rotate_left
  · rintro w' ⟨s0, s1, s2, s3, s4, s5, s6, s7, s8, s9⟩
    go_simp
    with_reducible rfl
  rotate_left
  · simp only [Act.put, List.setIfInBounds_toArray, List.set_cons_zero, List.set_cons_succ, i64_w, i32_w]
    rfl
  refine take_ (i := 1) (N := (some 58)) (v := ?_) (a' := ?_) #[true, true, false, false, false, false, false, false] rfl rfl (by kernel_rfl) (fun _ _ _ h => h) (Or.inl ⟨by rfl, ?_⟩) hHeld ?_ ?_
  rotate_left
  · rintro w' ⟨s0, s1, s2, s3, s4, s5, s6, s7, s8, s9⟩
    go_simp
    with_reducible rfl
  rotate_left
  · simp only [Act.put, List.setIfInBounds_toArray, List.set_cons_zero, List.set_cons_succ, i64_w, i32_w]
    rfl
  refine pure_ (i := 2) (N := (some 59)) (v := ?_) (a' := ?_) #[true, true, true, false, false, false, false, false] rfl rfl (by kernel_rfl) (fun _ _ _ h => h) (Or.inl ⟨by rfl, ?_⟩) ?_ ?_
  rotate_left
  · intro w'
    go_simp
    with_reducible rfl
  rotate_left
  · simp only [Act.put, List.setIfInBounds_toArray, List.set_cons_zero, List.set_cons_succ, i64_w, i32_w]
    rfl
  refine take_ (i := 3) (N := (some 60)) (v := ?_) (a' := ?_) #[true, true, true, true, false, false, false, false] rfl rfl (by kernel_rfl) (fun _ _ _ h => h) (Or.inl ⟨by rfl, ?_⟩) hHeld ?_ ?_
  rotate_left
  · rintro w' ⟨s0, s1, s2, s3, s4, s5, s6, s7, s8, s9⟩
    go_simp
    with_reducible rfl
  rotate_left
  · simp only [Act.put, List.setIfInBounds_toArray, List.set_cons_zero, List.set_cons_succ, i64_w, i32_w]
    rfl
  refine pure_ (i := 4) (N := (some 61)) (v := ?_) (a' := ?_) #[true, true, true, true, true, false, false, false] rfl rfl (by kernel_rfl) (fun _ _ _ h => h) (Or.inl ⟨by rfl, ?_⟩) ?_ ?_
  rotate_left
  · intro w'
    go_simp
    with_reducible rfl
  rotate_left
  · simp only [Act.put, List.setIfInBounds_toArray, List.set_cons_zero, List.set_cons_succ, i64_w, i32_w]
    rfl
  refine one_ (i := 5) (N := (some 62)) #[true, true, true, true, true, true, false, false] rfl rfl (by kernel_rfl) (by decide) (fun K hK => ?_)
  refine goes_ Try.func21 (by kernel_rfl) rfl #[.agg #[.string a0, .int .i64 a1, .int .i64 a2, .int .i64 a3, .string a4], .agg #[.bool true, .int .i64 0, .string b4]] (by rfl) rfl rfl (by (try simp only [List.map_toArray, List.map_cons, List.map_nil]); first | done | rfl) ?_
  refine (broadsideref1_Holds.calls a0 a1 a2 a3 a4 true 0 b4 r W0 hH.out).mono ?_
  rintro e W1 ⟨rfl, hbc⟩
  refine ⟨_, rfl, ?_⟩
  have hz1 := pred_Both.mv hbc C2
  have HB1 := below_step HB0 hbc
  have hsz : w.heap.size + 1 + 1 < W1.heap.size := blk_lt hz1
  refine hK.out _ _ (hSz _ hbc) (fun hHeld => ?_)
  clear hK K hSz C2 HB0 hbc
  refine norm_ (a' := ?_) ?_ ?_
  rotate_left
  · show Act.put _ (some 62) _ = _
    simp only [Act.put, List.setIfInBounds_toArray, List.set_cons_zero, List.set_cons_succ, i64_w, i32_w]
    rfl
  have hv0 := (blk_cell hz1 0).trans rfl
  have hv1 := (blk_cell hz1 1).trans rfl
  have hv2 := (blk_cell hz1 2).trans rfl
  have hv3 := (blk_cell hz1 3).trans rfl
  have hv4 := (blk_cell hz1 4).trans rfl
  have hfz : ∀ j, W1.frozen? ⟨w.heap.size + 1 + 1, j, none⟩ = false := fun j => blk_frozen hz1 j
  refine last_ (i := 6) (N := none) #[true, true, true, true, true, true, true, false] rfl rfl (by kernel_rfl) (by decide) (fun K hK => ?_)
  refine skip_ (w1 := (((((W1.setCell ⟨w.heap.size + 1 + 1, 0, none⟩ (.string b0)).setCell ⟨w.heap.size + 1 + 1, 1, none⟩ (.int .i64 b1)).setCell ⟨w.heap.size + 1 + 1, 2, none⟩ (.int .i64 b2)).setCell ⟨w.heap.size + 1 + 1, 3, none⟩ (.int .i64 b3)).setCell ⟨w.heap.size + 1 + 1, 4, none⟩ (.string b4))) (by rfl) rfl (by go_simp) ?_
  refine hK.out _ _ ?_
  clear hK K
  refine pure_ (i := 7) (N := (some 5)) (v := ?_) (a' := ?_) #[true, true, true, true, true, true, true, true] rfl rfl (by kernel_rfl) (fun _ _ _ h => h) (Or.inl ⟨by rfl, ?_⟩) ?_ ?_
  rotate_left
  · intro w'
    go_simp
    with_reducible rfl
  rotate_left
  · simp only [Act.put, List.setIfInBounds_toArray, List.set_cons_zero, List.set_cons_succ, i64_w, i32_w]
    rfl
  refine done_ (by kernel_rfl) ?_
  have hz2 : (((((W1.setCell ⟨w.heap.size + 1 + 1, 0, none⟩ (.string b0)).setCell ⟨w.heap.size + 1 + 1, 1, none⟩ (.int .i64 b1)).setCell ⟨w.heap.size + 1 + 1, 2, none⟩ (.int .i64 b2)).setCell ⟨w.heap.size + 1 + 1, 3, none⟩ (.int .i64 b3)).setCell ⟨w.heap.size + 1 + 1, 4, none⟩ (.string b4)).heap[w.heap.size + 1 + 1]? = some (.cells #[.string b0, .int .i64 b1, .int .i64 b2, .int .i64 b3, .string b4] 23 (0, 0)) := by simpa using (blk_set (blk_set (blk_set (blk_set (blk_set hz1 0 (.string b0)) 1 (.int .i64 b1)) 2 (.int .i64 b2)) 3 (.int .i64 b3)) 4 (.string b4))
  have HB2 : Below w.heap.size w (((((W1.setCell ⟨w.heap.size + 1 + 1, 0, none⟩ (.string b0)).setCell ⟨w.heap.size + 1 + 1, 1, none⟩ (.int .i64 b1)).setCell ⟨w.heap.size + 1 + 1, 2, none⟩ (.int .i64 b2)).setCell ⟨w.heap.size + 1 + 1, 3, none⟩ (.int .i64 b3)).setCell ⟨w.heap.size + 1 + 1, 4, none⟩ (.string b4)) := by repeat (first | exact HB1 | refine below_set ?_ (by omega))
  generalize (((((W1.setCell ⟨w.heap.size + 1 + 1, 0, none⟩ (.string b0)).setCell ⟨w.heap.size + 1 + 1, 1, none⟩ (.int .i64 b1)).setCell ⟨w.heap.size + 1 + 1, 2, none⟩ (.int .i64 b2)).setCell ⟨w.heap.size + 1 + 1, 3, none⟩ (.int .i64 b3)).setCell ⟨w.heap.size + 1 + 1, 4, none⟩ (.string b4)) = W2 at hz2 HB2 ⊢
  clear hv0 hv1 hv2 hv3 hv4 hfz hz1 hHeld
  have q2 := fun i => blk_cell hz2 i
  go_wp2
  refine bodyPost_ret (v := .tuple #[.agg #[.string b0, .int .i64 b1, .int .i64 b2, .int .i64 b3, .string b4], .bool r]) (by simp [results, Try.results40, go_sem, q2]) rfl ⟨rfl, ?_⟩
  clear q2 hz2
  repeat (with_reducible first | exact HB2 | apply below_alloc | apply pw_below_drewN | apply below_drew1)

set_option maxHeartbeats 4000000 in
set_option maxRecDepth 100000 in
theorem ref_Both.ba (a0 : ByteArray) (a1 a2 a3 : Int) (a4 : ByteArray) (b0 : ByteArray) (b1 b2 b3 : Int) (b4 : ByteArray) (w : World) (k1 : (a1 == 1) = false) (k2 : (b1 == 1) = false) (k3 : (a1 == 2) = false) (k4 : (b1 == 2) = false) (k5 : decide ((b4.size : Int) ≤ (a4.size : Int)) = true) (k6 : decide (b4.size ≤ a4.size) = true) (r : Bool) (hH : Aside0 (broadsideref1_begins.f a4 b4 = some r)) :
    Calls Try.prog 40 #[.agg #[.string a0, .int .i64 a1, .int .i64 a2, .int .i64 a3, .string a4], .agg #[.string b0, .int .i64 b1, .int .i64 b2, .int .i64 b3, .string b4]] w fun e w' => e = .returned (.tuple #[.agg #[.string a0, .int .i64 a1, .int .i64 a2, .int .i64 a3, .string a4], .bool r]) ∧ Below w.heap.size w w' := by
  have hu23 := Try.underlying23
  go_enter Try.func40, Try.ntmps40
  have hu40 := Try.underlying40
  go_wp2_with fail
  have ⟨W, hW⟩ : ∃ x, x = ((w.alloc (.cells #[.string a0, .int .i64 a1, .int .i64 a2, .int .i64 a3, .string a4] 23)).alloc (.cells #[.string b0, .int .i64 b1, .int .i64 b2, .int .i64 b3, .string b4] 23)).alloc (.cells #[.string (⟨#[]⟩ : ByteArray), .int .i64 0, .int .i64 0, .int .i64 0, .string (⟨#[]⟩ : ByteArray)] 23) := ⟨_, rfl⟩
  have B0 : W.heap[w.heap.size]? = some (.cells #[.string a0, .int .i64 a1, .int .i64 a2, .int .i64 a3, .string a4] 23 (0, 0)) := by rw [hW]; exact pred_Both.up (pred_Both.up (pred_Both.top _ _ rfl) _) _
  have B1 : W.heap[w.heap.size + 1]? = some (.cells #[.string b0, .int .i64 b1, .int .i64 b2, .int .i64 b3, .string b4] 23 (0, 0)) := by rw [hW]; exact pred_Both.up (pred_Both.top _ _ (by simp)) _
  have B2 : W.heap[w.heap.size + 1 + 1]? = some (.cells #[.string (⟨#[]⟩ : ByteArray), .int .i64 0, .int .i64 0, .int .i64 0, .string (⟨#[]⟩ : ByteArray)] 23 (0, 0)) := by rw [hW]; exact pred_Both.top _ _ (by simp)
  have HB : Below w.heap.size w W := by rw [hW]; repeat (first | exact Below.refl _ _ | apply below_alloc)
  rw [← hW]
  clear hW
  have hS : ∀ w', Below W.heap.size W w' → w'.cell? ⟨w.heap.size, 0, none⟩ = some (.string a0) ∧ w'.cell? ⟨w.heap.size, 1, none⟩ = some (.int .i64 a1) ∧ w'.cell? ⟨w.heap.size, 2, none⟩ = some (.int .i64 a2) ∧ w'.cell? ⟨w.heap.size, 3, none⟩ = some (.int .i64 a3) ∧ w'.cell? ⟨w.heap.size, 4, none⟩ = some (.string a4) ∧ w'.cell? ⟨w.heap.size + 1, 0, none⟩ = some (.string b0) ∧ w'.cell? ⟨w.heap.size + 1, 1, none⟩ = some (.int .i64 b1) ∧ w'.cell? ⟨w.heap.size + 1, 2, none⟩ = some (.int .i64 b2) ∧ w'.cell? ⟨w.heap.size + 1, 3, none⟩ = some (.int .i64 b3) ∧ w'.cell? ⟨w.heap.size + 1, 4, none⟩ = some (.string b4) := fun w' hw => ⟨pw_cell_below hw ((blk_cell B0 0).trans rfl), pw_cell_below hw ((blk_cell B0 1).trans rfl), pw_cell_below hw ((blk_cell B0 2).trans rfl), pw_cell_below hw ((blk_cell B0 3).trans rfl), pw_cell_below hw ((blk_cell B0 4).trans rfl), pw_cell_below hw ((blk_cell B1 0).trans rfl), pw_cell_below hw ((blk_cell B1 1).trans rfl), pw_cell_below hw ((blk_cell B1 2).trans rfl), pw_cell_below hw ((blk_cell B1 3).trans rfl), pw_cell_below hw ((blk_cell B1 4).trans rfl)⟩
  refine start_ (n := 8) (S := fun w' => w'.cell? ⟨w.heap.size, 0, none⟩ = some (.string a0) ∧ w'.cell? ⟨w.heap.size, 1, none⟩ = some (.int .i64 a1) ∧ w'.cell? ⟨w.heap.size, 2, none⟩ = some (.int .i64 a2) ∧ w'.cell? ⟨w.heap.size, 3, none⟩ = some (.int .i64 a3) ∧ w'.cell? ⟨w.heap.size, 4, none⟩ = some (.string a4) ∧ w'.cell? ⟨w.heap.size + 1, 0, none⟩ = some (.string b0) ∧ w'.cell? ⟨w.heap.size + 1, 1, none⟩ = some (.int .i64 b1) ∧ w'.cell? ⟨w.heap.size + 1, 2, none⟩ = some (.int .i64 b2) ∧ w'.cell? ⟨w.heap.size + 1, 3, none⟩ = some (.int .i64 b3) ∧ w'.cell? ⟨w.heap.size + 1, 4, none⟩ = some (.string b4)) (ds := [6]) #[false, false, false, false, false, false, false, false] (by kernel_rfl) rfl rfl (hS _ (below_drew1 (Below.refl _ _))) (fun hHeld => ?_)
  have hW0 : Below W.heap.size W W.drew := below_drew1 (Below.refl _ _)
  have hSz := fun (w' : World) (hw : Below W.drew.heap.size W.drew w') => hS w' (below_step hW0 hw)
  have C2 := pred_Both.mv hW0 B2
  have HB0 := below_step HB hW0
  clear hS B0 B1 B2 HB hW0
  generalize W.drew = W0 at C2 HB0 hHeld hSz ⊢
  refine take_ (i := 0) (N := (some 71)) (v := ?_) (a' := ?_) #[true, false, false, false, false, false, false, false] rfl rfl (by kernel_rfl) (fun _ _ _ h => h) (Or.inl ⟨by rfl, ?_⟩) hHeld ?_ ?_
  rotate_left
  · rintro w' ⟨s0, s1, s2, s3, s4, s5, s6, s7, s8, s9⟩
    go_simp
    with_reducible rfl
  rotate_left
  · simp only [Act.put, List.setIfInBounds_toArray, List.set_cons_zero, List.set_cons_succ, i64_w, i32_w]
    rfl
  refine pure_ (i := 1) (N := (some 72)) (v := ?_) (a' := ?_) #[true, true, false, false, false, false, false, false] rfl rfl (by kernel_rfl) (fun _ _ _ h => h) (Or.inl ⟨by rfl, ?_⟩) ?_ ?_
  rotate_left
  · intro w'
    go_simp
    with_reducible rfl
  rotate_left
  · simp only [Act.put, List.setIfInBounds_toArray, List.set_cons_zero, List.set_cons_succ, i64_w, i32_w]
    rfl
  refine take_ (i := 2) (N := (some 73)) (v := ?_) (a' := ?_) #[true, true, true, false, false, false, false, false] rfl rfl (by kernel_rfl) (fun _ _ _ h => h) (Or.inl ⟨by rfl, ?_⟩) hHeld ?_ ?_
  rotate_left
  · rintro w' ⟨s0, s1, s2, s3, s4, s5, s6, s7, s8, s9⟩
    go_simp
    with_reducible rfl
  rotate_left
  · simp only [Act.put, List.setIfInBounds_toArray, List.set_cons_zero, List.set_cons_succ, i64_w, i32_w]
    rfl
  refine pure_ (i := 3) (N := (some 74)) (v := ?_) (a' := ?_) #[true, true, true, true, false, false, false, false] rfl rfl (by kernel_rfl) (fun _ _ _ h => h) (Or.inl ⟨by rfl, ?_⟩) ?_ ?_
  rotate_left
  · intro w'
    go_simp
    with_reducible rfl
  rotate_left
  · simp only [Act.put, List.setIfInBounds_toArray, List.set_cons_zero, List.set_cons_succ, i64_w, i32_w]
    rfl
  refine take_ (i := 4) (N := (some 75)) (v := ?_) (a' := ?_) #[true, true, true, true, true, false, false, false] rfl rfl (by kernel_rfl) (fun _ _ _ h => h) (Or.inl ⟨by rfl, ?_⟩) hHeld ?_ ?_
  rotate_left
  · rintro w' ⟨s0, s1, s2, s3, s4, s5, s6, s7, s8, s9⟩
    go_simp
    with_reducible rfl
  rotate_left
  · simp only [Act.put, List.setIfInBounds_toArray, List.set_cons_zero, List.set_cons_succ, i64_w, i32_w]
    rfl
  refine one_ (i := 5) (N := (some 76)) #[true, true, true, true, true, true, false, false] rfl rfl (by kernel_rfl) (by decide) (fun K hK => ?_)
  refine goes_ Try.func36 (by kernel_rfl) rfl #[.string a4, .string b4] (by rfl) rfl rfl (by (try simp only [List.map_toArray, List.map_cons, List.map_nil]); first | done | rfl) ?_
  refine (broadsideref1_begins.calls a4 b4 r W0 hH.out).mono ?_
  rintro e W1 ⟨rfl, hdr⟩
  have hbc := Drawn0.below hdr
  clear hdr
  refine ⟨_, rfl, ?_⟩
  have hz1 := pred_Both.mv hbc C2
  have HB1 := below_step HB0 hbc
  have hsz : w.heap.size + 1 + 1 < W1.heap.size := blk_lt hz1
  refine hK.out _ _ (hSz _ hbc) (fun hHeld => ?_)
  clear hK K hSz C2 HB0 hbc
  refine norm_ (a' := ?_) ?_ ?_
  rotate_left
  · show Act.put _ (some 76) _ = _
    simp only [Act.put, List.setIfInBounds_toArray, List.set_cons_zero, List.set_cons_succ, i64_w, i32_w]
    rfl
  have hv0 := (blk_cell hz1 0).trans rfl
  have hv1 := (blk_cell hz1 1).trans rfl
  have hv2 := (blk_cell hz1 2).trans rfl
  have hv3 := (blk_cell hz1 3).trans rfl
  have hv4 := (blk_cell hz1 4).trans rfl
  have hfz : ∀ j, W1.frozen? ⟨w.heap.size + 1 + 1, j, none⟩ = false := fun j => blk_frozen hz1 j
  refine last_ (i := 6) (N := none) #[true, true, true, true, true, true, true, false] rfl rfl (by kernel_rfl) (by decide) (fun K hK => ?_)
  refine skip_ (w1 := (((((W1.setCell ⟨w.heap.size + 1 + 1, 0, none⟩ (.string a0)).setCell ⟨w.heap.size + 1 + 1, 1, none⟩ (.int .i64 a1)).setCell ⟨w.heap.size + 1 + 1, 2, none⟩ (.int .i64 a2)).setCell ⟨w.heap.size + 1 + 1, 3, none⟩ (.int .i64 a3)).setCell ⟨w.heap.size + 1 + 1, 4, none⟩ (.string a4))) (by rfl) rfl (by go_simp) ?_
  refine hK.out _ _ ?_
  clear hK K
  refine pure_ (i := 7) (N := (some 5)) (v := ?_) (a' := ?_) #[true, true, true, true, true, true, true, true] rfl rfl (by kernel_rfl) (fun _ _ _ h => h) (Or.inl ⟨by rfl, ?_⟩) ?_ ?_
  rotate_left
  · intro w'
    go_simp
    with_reducible rfl
  rotate_left
  · simp only [Act.put, List.setIfInBounds_toArray, List.set_cons_zero, List.set_cons_succ, i64_w, i32_w]
    rfl
  refine done_ (by kernel_rfl) ?_
  have hz2 : (((((W1.setCell ⟨w.heap.size + 1 + 1, 0, none⟩ (.string a0)).setCell ⟨w.heap.size + 1 + 1, 1, none⟩ (.int .i64 a1)).setCell ⟨w.heap.size + 1 + 1, 2, none⟩ (.int .i64 a2)).setCell ⟨w.heap.size + 1 + 1, 3, none⟩ (.int .i64 a3)).setCell ⟨w.heap.size + 1 + 1, 4, none⟩ (.string a4)).heap[w.heap.size + 1 + 1]? = some (.cells #[.string a0, .int .i64 a1, .int .i64 a2, .int .i64 a3, .string a4] 23 (0, 0)) := by simpa using (blk_set (blk_set (blk_set (blk_set (blk_set hz1 0 (.string a0)) 1 (.int .i64 a1)) 2 (.int .i64 a2)) 3 (.int .i64 a3)) 4 (.string a4))
  have HB2 : Below w.heap.size w (((((W1.setCell ⟨w.heap.size + 1 + 1, 0, none⟩ (.string a0)).setCell ⟨w.heap.size + 1 + 1, 1, none⟩ (.int .i64 a1)).setCell ⟨w.heap.size + 1 + 1, 2, none⟩ (.int .i64 a2)).setCell ⟨w.heap.size + 1 + 1, 3, none⟩ (.int .i64 a3)).setCell ⟨w.heap.size + 1 + 1, 4, none⟩ (.string a4)) := by repeat (first | exact HB1 | refine below_set ?_ (by omega))
  generalize (((((W1.setCell ⟨w.heap.size + 1 + 1, 0, none⟩ (.string a0)).setCell ⟨w.heap.size + 1 + 1, 1, none⟩ (.int .i64 a1)).setCell ⟨w.heap.size + 1 + 1, 2, none⟩ (.int .i64 a2)).setCell ⟨w.heap.size + 1 + 1, 3, none⟩ (.int .i64 a3)).setCell ⟨w.heap.size + 1 + 1, 4, none⟩ (.string a4)) = W2 at hz2 HB2 ⊢
  clear hv0 hv1 hv2 hv3 hv4 hfz hz1 hHeld
  have q2 := fun i => blk_cell hz2 i
  go_wp2
  refine bodyPost_ret (v := .tuple #[.agg #[.string a0, .int .i64 a1, .int .i64 a2, .int .i64 a3, .string a4], .bool r]) (by simp [results, Try.results40, go_sem, q2]) rfl ⟨rfl, ?_⟩
  clear q2 hz2
  repeat (with_reducible first | exact HB2 | apply below_alloc | apply pw_below_drewN | apply below_drew1)

set_option maxHeartbeats 4000000 in
set_option maxRecDepth 100000 in
theorem ref_Both.bb (a0 : ByteArray) (a1 a2 a3 : Int) (a4 : ByteArray) (b0 : ByteArray) (b1 b2 b3 : Int) (b4 : ByteArray) (w : World) (k1 : (a1 == 1) = false) (k2 : (b1 == 1) = false) (k3 : (a1 == 2) = false) (k4 : (b1 == 2) = false) (k5 : decide ((b4.size : Int) ≤ (a4.size : Int)) = false) (k6 : decide (b4.size ≤ a4.size) = false) (r : Bool) (hH : Aside0 (broadsideref1_begins.f b4 a4 = some r)) :
    Calls Try.prog 40 #[.agg #[.string a0, .int .i64 a1, .int .i64 a2, .int .i64 a3, .string a4], .agg #[.string b0, .int .i64 b1, .int .i64 b2, .int .i64 b3, .string b4]] w fun e w' => e = .returned (.tuple #[.agg #[.string b0, .int .i64 b1, .int .i64 b2, .int .i64 b3, .string b4], .bool r]) ∧ Below w.heap.size w w' := by
  have hu23 := Try.underlying23
  go_enter Try.func40, Try.ntmps40
  have hu40 := Try.underlying40
  go_wp2_with fail
  have ⟨W, hW⟩ : ∃ x, x = ((w.alloc (.cells #[.string a0, .int .i64 a1, .int .i64 a2, .int .i64 a3, .string a4] 23)).alloc (.cells #[.string b0, .int .i64 b1, .int .i64 b2, .int .i64 b3, .string b4] 23)).alloc (.cells #[.string (⟨#[]⟩ : ByteArray), .int .i64 0, .int .i64 0, .int .i64 0, .string (⟨#[]⟩ : ByteArray)] 23) := ⟨_, rfl⟩
  have B0 : W.heap[w.heap.size]? = some (.cells #[.string a0, .int .i64 a1, .int .i64 a2, .int .i64 a3, .string a4] 23 (0, 0)) := by rw [hW]; exact pred_Both.up (pred_Both.up (pred_Both.top _ _ rfl) _) _
  have B1 : W.heap[w.heap.size + 1]? = some (.cells #[.string b0, .int .i64 b1, .int .i64 b2, .int .i64 b3, .string b4] 23 (0, 0)) := by rw [hW]; exact pred_Both.up (pred_Both.top _ _ (by simp)) _
  have B2 : W.heap[w.heap.size + 1 + 1]? = some (.cells #[.string (⟨#[]⟩ : ByteArray), .int .i64 0, .int .i64 0, .int .i64 0, .string (⟨#[]⟩ : ByteArray)] 23 (0, 0)) := by rw [hW]; exact pred_Both.top _ _ (by simp)
  have HB : Below w.heap.size w W := by rw [hW]; repeat (first | exact Below.refl _ _ | apply below_alloc)
  rw [← hW]
  clear hW
  have hS : ∀ w', Below W.heap.size W w' → w'.cell? ⟨w.heap.size, 0, none⟩ = some (.string a0) ∧ w'.cell? ⟨w.heap.size, 1, none⟩ = some (.int .i64 a1) ∧ w'.cell? ⟨w.heap.size, 2, none⟩ = some (.int .i64 a2) ∧ w'.cell? ⟨w.heap.size, 3, none⟩ = some (.int .i64 a3) ∧ w'.cell? ⟨w.heap.size, 4, none⟩ = some (.string a4) ∧ w'.cell? ⟨w.heap.size + 1, 0, none⟩ = some (.string b0) ∧ w'.cell? ⟨w.heap.size + 1, 1, none⟩ = some (.int .i64 b1) ∧ w'.cell? ⟨w.heap.size + 1, 2, none⟩ = some (.int .i64 b2) ∧ w'.cell? ⟨w.heap.size + 1, 3, none⟩ = some (.int .i64 b3) ∧ w'.cell? ⟨w.heap.size + 1, 4, none⟩ = some (.string b4) := fun w' hw => ⟨pw_cell_below hw ((blk_cell B0 0).trans rfl), pw_cell_below hw ((blk_cell B0 1).trans rfl), pw_cell_below hw ((blk_cell B0 2).trans rfl), pw_cell_below hw ((blk_cell B0 3).trans rfl), pw_cell_below hw ((blk_cell B0 4).trans rfl), pw_cell_below hw ((blk_cell B1 0).trans rfl), pw_cell_below hw ((blk_cell B1 1).trans rfl), pw_cell_below hw ((blk_cell B1 2).trans rfl), pw_cell_below hw ((blk_cell B1 3).trans rfl), pw_cell_below hw ((blk_cell B1 4).trans rfl)⟩
  refine start_ (n := 8) (S := fun w' => w'.cell? ⟨w.heap.size, 0, none⟩ = some (.string a0) ∧ w'.cell? ⟨w.heap.size, 1, none⟩ = some (.int .i64 a1) ∧ w'.cell? ⟨w.heap.size, 2, none⟩ = some (.int .i64 a2) ∧ w'.cell? ⟨w.heap.size, 3, none⟩ = some (.int .i64 a3) ∧ w'.cell? ⟨w.heap.size, 4, none⟩ = some (.string a4) ∧ w'.cell? ⟨w.heap.size + 1, 0, none⟩ = some (.string b0) ∧ w'.cell? ⟨w.heap.size + 1, 1, none⟩ = some (.int .i64 b1) ∧ w'.cell? ⟨w.heap.size + 1, 2, none⟩ = some (.int .i64 b2) ∧ w'.cell? ⟨w.heap.size + 1, 3, none⟩ = some (.int .i64 b3) ∧ w'.cell? ⟨w.heap.size + 1, 4, none⟩ = some (.string b4)) (ds := [6]) #[false, false, false, false, false, false, false, false] (by kernel_rfl) rfl rfl (hS _ (below_drew1 (Below.refl _ _))) (fun hHeld => ?_)
  have hW0 : Below W.heap.size W W.drew := below_drew1 (Below.refl _ _)
  have hSz := fun (w' : World) (hw : Below W.drew.heap.size W.drew w') => hS w' (below_step hW0 hw)
  have C2 := pred_Both.mv hW0 B2
  have HB0 := below_step HB hW0
  clear hS B0 B1 B2 HB hW0
  generalize W.drew = W0 at C2 HB0 hHeld hSz ⊢
  refine take_ (i := 0) (N := (some 77)) (v := ?_) (a' := ?_) #[true, false, false, false, false, false, false, false] rfl rfl (by kernel_rfl) (fun _ _ _ h => h) (Or.inl ⟨by rfl, ?_⟩) hHeld ?_ ?_
  rotate_left
  · rintro w' ⟨s0, s1, s2, s3, s4, s5, s6, s7, s8, s9⟩
    go_simp
    with_reducible rfl
  rotate_left
  · simp only [Act.put, List.setIfInBounds_toArray, List.set_cons_zero, List.set_cons_succ, i64_w, i32_w]
    rfl
  refine pure_ (i := 1) (N := (some 78)) (v := ?_) (a' := ?_) #[true, true, false, false, false, false, false, false] rfl rfl (by kernel_rfl) (fun _ _ _ h => h) (Or.inl ⟨by rfl, ?_⟩) ?_ ?_
  rotate_left
  · intro w'
    go_simp
    with_reducible rfl
  rotate_left
  · simp only [Act.put, List.setIfInBounds_toArray, List.set_cons_zero, List.set_cons_succ, i64_w, i32_w]
    rfl
  refine take_ (i := 2) (N := (some 79)) (v := ?_) (a' := ?_) #[true, true, true, false, false, false, false, false] rfl rfl (by kernel_rfl) (fun _ _ _ h => h) (Or.inl ⟨by rfl, ?_⟩) hHeld ?_ ?_
  rotate_left
  · rintro w' ⟨s0, s1, s2, s3, s4, s5, s6, s7, s8, s9⟩
    go_simp
    with_reducible rfl
  rotate_left
  · simp only [Act.put, List.setIfInBounds_toArray, List.set_cons_zero, List.set_cons_succ, i64_w, i32_w]
    rfl
  refine pure_ (i := 3) (N := (some 80)) (v := ?_) (a' := ?_) #[true, true, true, true, false, false, false, false] rfl rfl (by kernel_rfl) (fun _ _ _ h => h) (Or.inl ⟨by rfl, ?_⟩) ?_ ?_
  rotate_left
  · intro w'
    go_simp
    with_reducible rfl
  rotate_left
  · simp only [Act.put, List.setIfInBounds_toArray, List.set_cons_zero, List.set_cons_succ, i64_w, i32_w]
    rfl
  refine take_ (i := 4) (N := (some 81)) (v := ?_) (a' := ?_) #[true, true, true, true, true, false, false, false] rfl rfl (by kernel_rfl) (fun _ _ _ h => h) (Or.inl ⟨by rfl, ?_⟩) hHeld ?_ ?_
  rotate_left
  · rintro w' ⟨s0, s1, s2, s3, s4, s5, s6, s7, s8, s9⟩
    go_simp
    with_reducible rfl
  rotate_left
  · simp only [Act.put, List.setIfInBounds_toArray, List.set_cons_zero, List.set_cons_succ, i64_w, i32_w]
    rfl
  refine one_ (i := 5) (N := (some 82)) #[true, true, true, true, true, true, false, false] rfl rfl (by kernel_rfl) (by decide) (fun K hK => ?_)
  refine goes_ Try.func36 (by kernel_rfl) rfl #[.string b4, .string a4] (by rfl) rfl rfl (by (try simp only [List.map_toArray, List.map_cons, List.map_nil]); first | done | rfl) ?_
  refine (broadsideref1_begins.calls b4 a4 r W0 hH.out).mono ?_
  rintro e W1 ⟨rfl, hdr⟩
  have hbc := Drawn0.below hdr
  clear hdr
  refine ⟨_, rfl, ?_⟩
  have hz1 := pred_Both.mv hbc C2
  have HB1 := below_step HB0 hbc
  have hsz : w.heap.size + 1 + 1 < W1.heap.size := blk_lt hz1
  refine hK.out _ _ (hSz _ hbc) (fun hHeld => ?_)
  clear hK K hSz C2 HB0 hbc
  refine norm_ (a' := ?_) ?_ ?_
  rotate_left
  · show Act.put _ (some 82) _ = _
    simp only [Act.put, List.setIfInBounds_toArray, List.set_cons_zero, List.set_cons_succ, i64_w, i32_w]
    rfl
  have hv0 := (blk_cell hz1 0).trans rfl
  have hv1 := (blk_cell hz1 1).trans rfl
  have hv2 := (blk_cell hz1 2).trans rfl
  have hv3 := (blk_cell hz1 3).trans rfl
  have hv4 := (blk_cell hz1 4).trans rfl
  have hfz : ∀ j, W1.frozen? ⟨w.heap.size + 1 + 1, j, none⟩ = false := fun j => blk_frozen hz1 j
  refine last_ (i := 6) (N := none) #[true, true, true, true, true, true, true, false] rfl rfl (by kernel_rfl) (by decide) (fun K hK => ?_)
  refine skip_ (w1 := (((((W1.setCell ⟨w.heap.size + 1 + 1, 0, none⟩ (.string b0)).setCell ⟨w.heap.size + 1 + 1, 1, none⟩ (.int .i64 b1)).setCell ⟨w.heap.size + 1 + 1, 2, none⟩ (.int .i64 b2)).setCell ⟨w.heap.size + 1 + 1, 3, none⟩ (.int .i64 b3)).setCell ⟨w.heap.size + 1 + 1, 4, none⟩ (.string b4))) (by rfl) rfl (by go_simp) ?_
  refine hK.out _ _ ?_
  clear hK K
  refine pure_ (i := 7) (N := (some 5)) (v := ?_) (a' := ?_) #[true, true, true, true, true, true, true, true] rfl rfl (by kernel_rfl) (fun _ _ _ h => h) (Or.inl ⟨by rfl, ?_⟩) ?_ ?_
  rotate_left
  · intro w'
    go_simp
    with_reducible rfl
  rotate_left
  · simp only [Act.put, List.setIfInBounds_toArray, List.set_cons_zero, List.set_cons_succ, i64_w, i32_w]
    rfl
  refine done_ (by kernel_rfl) ?_
  have hz2 : (((((W1.setCell ⟨w.heap.size + 1 + 1, 0, none⟩ (.string b0)).setCell ⟨w.heap.size + 1 + 1, 1, none⟩ (.int .i64 b1)).setCell ⟨w.heap.size + 1 + 1, 2, none⟩ (.int .i64 b2)).setCell ⟨w.heap.size + 1 + 1, 3, none⟩ (.int .i64 b3)).setCell ⟨w.heap.size + 1 + 1, 4, none⟩ (.string b4)).heap[w.heap.size + 1 + 1]? = some (.cells #[.string b0, .int .i64 b1, .int .i64 b2, .int .i64 b3, .string b4] 23 (0, 0)) := by simpa using (blk_set (blk_set (blk_set (blk_set (blk_set hz1 0 (.string b0)) 1 (.int .i64 b1)) 2 (.int .i64 b2)) 3 (.int .i64 b3)) 4 (.string b4))
  have HB2 : Below w.heap.size w (((((W1.setCell ⟨w.heap.size + 1 + 1, 0, none⟩ (.string b0)).setCell ⟨w.heap.size + 1 + 1, 1, none⟩ (.int .i64 b1)).setCell ⟨w.heap.size + 1 + 1, 2, none⟩ (.int .i64 b2)).setCell ⟨w.heap.size + 1 + 1, 3, none⟩ (.int .i64 b3)).setCell ⟨w.heap.size + 1 + 1, 4, none⟩ (.string b4)) := by repeat (first | exact HB1 | refine below_set ?_ (by omega))
  generalize (((((W1.setCell ⟨w.heap.size + 1 + 1, 0, none⟩ (.string b0)).setCell ⟨w.heap.size + 1 + 1, 1, none⟩ (.int .i64 b1)).setCell ⟨w.heap.size + 1 + 1, 2, none⟩ (.int .i64 b2)).setCell ⟨w.heap.size + 1 + 1, 3, none⟩ (.int .i64 b3)).setCell ⟨w.heap.size + 1 + 1, 4, none⟩ (.string b4)) = W2 at hz2 HB2 ⊢
  clear hv0 hv1 hv2 hv3 hv4 hfz hz1 hHeld
  have q2 := fun i => blk_cell hz2 i
  go_wp2
  refine bodyPost_ret (v := .tuple #[.agg #[.string b0, .int .i64 b1, .int .i64 b2, .int .i64 b3, .string b4], .bool r]) (by simp [results, Try.results40, go_sem, q2]) rfl ⟨rfl, ?_⟩
  clear q2 hz2
  repeat (with_reducible first | exact HB2 | apply below_alloc | apply pw_below_drewN | apply below_drew1)

theorem ref_Both.calls_ (a0 : ByteArray) (a1 a2 a3 : Int) (a4 : ByteArray) (b0 : ByteArray) (b1 b2 b3 : Int) (b4 : ByteArray) (r1 : ByteArray) (r2 r3 r4 : Int) (r5 : ByteArray) (r6 : Bool) (w : World) (h : ref_Both.f a0 a1 a2 a3 a4 b0 b1 b2 b3 b4 = some (r1, r2, r3, r4, r5, r6)) :
    Calls Try.prog 40 #[.agg #[.string a0, .int .i64 a1, .int .i64 a2, .int .i64 a3, .string a4], .agg #[.string b0, .int .i64 b1, .int .i64 b2, .int .i64 b3, .string b4]] w fun e w' => e = .returned (.tuple #[.agg #[.string r1, .int .i64 r2, .int .i64 r3, .int .i64 r4, .string r5], .bool r6]) ∧ Below w.heap.size w w' := by
  unfold ref_Both.f at h
  by_cases k1 : a1 = 1
  · rw [if_pos k1] at h
    by_cases k2 : b1 = 1
    · rw [if_pos k2] at h
      unfold mx mn at h
      by_cases m1 : a2 < b2
      · by_cases m2 : b3 < a3
        · rw [if_pos m1, if_pos m2] at h; simp only [Option.some.injEq, Prod.mk.injEq] at h; obtain ⟨rfl, rfl, rfl, rfl, rfl, rfl⟩ := h; exact ref_Both.r3 a0 a1 a2 a3 a4 b0 b1 b2 b3 b4 w (by simpa using k1) (by simpa using k2) m1 m2
        · rw [if_pos m1, if_neg m2] at h; simp only [Option.some.injEq, Prod.mk.injEq] at h; obtain ⟨rfl, rfl, rfl, rfl, rfl, rfl⟩ := h; exact ref_Both.r2 a0 a1 a2 a3 a4 b0 b1 b2 b3 b4 w (by simpa using k1) (by simpa using k2) m1 m2
      · by_cases m2 : b3 < a3
        · rw [if_neg m1, if_pos m2] at h; simp only [Option.some.injEq, Prod.mk.injEq] at h; obtain ⟨rfl, rfl, rfl, rfl, rfl, rfl⟩ := h; exact ref_Both.r1 a0 a1 a2 a3 a4 b0 b1 b2 b3 b4 w (by simpa using k1) (by simpa using k2) m1 m2
        · rw [if_neg m1, if_neg m2] at h; simp only [Option.some.injEq, Prod.mk.injEq] at h; obtain ⟨rfl, rfl, rfl, rfl, rfl, rfl⟩ := h; exact ref_Both.r0 a0 a1 a2 a3 a4 b0 b1 b2 b3 b4 w (by simpa using k1) (by simpa using k2) m1 m2
    · rw [if_neg k2] at h; simp only [Option.some.injEq, Prod.mk.injEq] at h; obtain ⟨rfl, rfl, rfl, rfl, rfl, rfl⟩ := h; exact ref_Both.x0 a0 a1 a2 a3 a4 b0 b1 b2 b3 b4 w (by simpa using k1) (by simpa using k2)
  · rw [if_neg k1] at h
    by_cases k2 : b1 = 1
    · rw [if_pos k2] at h; simp only [Option.some.injEq, Prod.mk.injEq] at h; obtain ⟨rfl, rfl, rfl, rfl, rfl, rfl⟩ := h; exact ref_Both.x1 a0 a1 a2 a3 a4 b0 b1 b2 b3 b4 w (by simpa using k1) (by simpa using k2)
    · rw [if_neg k2] at h
      by_cases k3 : a1 = 2
      · rw [if_pos k3] at h; obtain ⟨r, hH, h⟩ := Option.bind_eq_some_iff.1 h; simp only [Option.some.injEq, Prod.mk.injEq] at h; obtain ⟨rfl, rfl, rfl, rfl, rfl, rfl⟩ := h; exact ref_Both.ha a0 a1 a2 a3 a4 b0 b1 b2 b3 b4 w (by simpa using k1) (by simpa using k2) (by simpa using k3) _ ⟨hH⟩
      · rw [if_neg k3] at h
        by_cases k4 : b1 = 2
        · rw [if_pos k4] at h; obtain ⟨r, hH, h⟩ := Option.bind_eq_some_iff.1 h; simp only [Option.some.injEq, Prod.mk.injEq] at h; obtain ⟨rfl, rfl, rfl, rfl, rfl, rfl⟩ := h; exact ref_Both.hb a0 a1 a2 a3 a4 b0 b1 b2 b3 b4 w (by simpa using k1) (by simpa using k2) (by simpa using k3) (by simpa using k4) _ ⟨hH⟩
        · rw [if_neg k4] at h
          by_cases k5 : (b4.size : Int) ≤ (a4.size : Int)
          · rw [if_pos k5] at h; obtain ⟨r, hH, h⟩ := Option.bind_eq_some_iff.1 h; simp only [Option.some.injEq, Prod.mk.injEq] at h; obtain ⟨rfl, rfl, rfl, rfl, rfl, rfl⟩ := h; exact ref_Both.ba a0 a1 a2 a3 a4 b0 b1 b2 b3 b4 w (by simpa using k1) (by simpa using k2) (by simpa using k3) (by simpa using k4) (by simpa using k5) (by simpa using k5) _ ⟨hH⟩
          · rw [if_neg k5] at h; obtain ⟨r, hH, h⟩ := Option.bind_eq_some_iff.1 h; simp only [Option.some.injEq, Prod.mk.injEq] at h; obtain ⟨rfl, rfl, rfl, rfl, rfl, rfl⟩ := h; exact ref_Both.bb a0 a1 a2 a3 a4 b0 b1 b2 b3 b4 w (by simpa using k1) (by simpa using k2) (by simpa using k3) (by simpa using k4) (by simpa using k5) (by simpa using k5) _ ⟨hH⟩

end Go.Proofs.Ytfabnapjbgamaaa.MRelTrue
