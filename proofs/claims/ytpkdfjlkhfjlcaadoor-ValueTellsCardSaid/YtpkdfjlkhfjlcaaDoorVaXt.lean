import Derived.Test.YtpkdfjlkhfjlcaaDoorVaT
import Derived.Test.YtpkdfjlkhfjlcaaDoorVaQ
import Derived.Test.YtpkdfjlkhfjlcaaDoorVaRp
import Derived.BigRegion
import Derived.Test.YtpkdfjlkhfjlcaaDoorVaX0
namespace Go.Proofs.YtpkdfjlkhfjlcaaDoor.MVal
open Go.RowKit Go.Proofs.YtpkdfjlkhfjlcaaDoorW.PrintWords Go.Proofs.YtpkdfjlkhfjlcaaDoorW.PrintLast Go.Proofs.YtpkdfjlkhfjlcaaDoorW.PrintMore
attribute [local go_sem] max2_int min2_int max_two min_two max_three min_three max_four min_four   -- for this text's walks alone
set_option linter.unusedVariables false
set_option linter.unusedSimpArgs false
set_option maxRecDepth 1000000 in
set_option maxHeartbeats 3200000 in
theorem tells_tt_00 (a1 : Int) (a2 : ByteArray) (b1 : Int) (b2 : ByteArray) (n : Int) (s : ByteArray) (w : World) (HTAB : Aside0 (Val.Tab w)) (ma mb ms : Int) (A B S : ByteArray)
    (ema : (if 15 < (a2.size : Int) then 15 else (a2.size : Int)) = ma) (emb : (if 15 < (b2.size : Int) then 15 else (b2.size : Int)) = mb) (ems : (if 15 < (s.size : Int) then 15 else (s.size : Int)) = ms)
    (hca : ∀ w, (Instr.slice 9 (.string a2) none (some (.int .i64 ma)) none).run Tryd.prog w = .ok (.string A) w) (hcb : ∀ w, (Instr.slice 9 (.string b2) none (some (.int .i64 mb)) none).run Tryd.prog w = .ok (.string B) w) (hcs : ∀ w, (Instr.slice 9 (.string s) none (some (.int .i64 ms)) none).run Tryd.prog w = .ok (.string S) w)
    (RA : Aside0 (value_Right.f false a1 A = some true)) (RB : Aside0 (value_Right.f false b1 B = some true)) (RV : Aside0 (broadsideref1_RightValue.f false a1 A = some true)) (u v : ByteArray) (E : Bool) (SA : Aside0 (value_Say.f false a1 A = some u)) (SB : Aside0 (value_Say.f false b1 B = some v)) (EQ : Aside0 (eqV false a1 A false b1 B = E)) (ES : Aside0 ((u.toList == v.toList) = E)) (EU : Aside0 ((u.toList == ([] : List UInt8)) = false)) :
    Calls Tryd.prog 8 #[.agg #[.bool false, .int .i64 a1, .string a2], .agg #[.bool false, .int .i64 b1, .string b2], .int .i64 n, .string s] w fun e w' => e = .returned (.bool true) ∧ Below w.heap.size w w' := by
  have hu51 := Tryd.underlying51
  go_enter Tryd.func8, Tryd.ntmps8
  go_upto_region 1 with (fail)
  obtain ⟨W, hW⟩ : ∃ W, W = ((w.alloc (.cells #[.bool false, .int .i64 a1, .string a2] 51)).alloc (.cells #[.bool false, .int .i64 b1, .string b2] 51)) := ⟨_, rfl⟩
  rw [← hW]
  have k4 : W.heap[w.heap.size]? = some (.cells #[.bool false, .int .i64 a1, .string a2] 51 (0, 0)) := by rw [hW]; exact (Val.old_alloc (by simp)).trans (heap_alloc_last w _)
  have k5 : W.heap[w.heap.size + 1]? = some (.cells #[.bool false, .int .i64 b1, .string b2] 51 (0, 0)) := by
    rw [hW]
    have h_ := heap_alloc_last (w.alloc (.cells #[.bool false, .int .i64 a1, .string a2] 51)) (.cells #[.bool false, .int .i64 b1, .string b2] 51)
    rw [show (w.alloc (.cells #[.bool false, .int .i64 a1, .string a2] 51)).heap.size = w.heap.size + 1 from by simp] at h_
    exact h_
  have HB0 : Aside0 (Below w.heap.size w W) := ⟨by rw [hW]; exact below_alloc (below_alloc (Below.refl _ _) _) _⟩
  clear hW
  have c4 : W.cell? ⟨w.heap.size, 2, none⟩ = some (.string a2) := (Val.cell_blk k4 2).trans rfl
  have c5 : W.cell? ⟨w.heap.size + 1, 2, none⟩ = some (.string b2) := (Val.cell_blk k5 2).trans rfl
  have f4 : W.frozen? ⟨w.heap.size, 2, none⟩ = false := by simp [World.frozen?, k4]
  have f5 : W.frozen? ⟨w.heap.size + 1, 2, none⟩ = false := by simp [World.frozen?, k5]
  go_region
  clear c4 c5 f4 f5 hca hcb hcs ema emb ems
  as_aux_lemma =>
    obtain ⟨W1, hW1⟩ : ∃ W1, W1 = ((W.setCell ⟨w.heap.size, 2, none⟩ (.string A)).setCell ⟨w.heap.size + 1, 2, none⟩ (.string B)).drew := ⟨_, rfl⟩
    rw [← hW1]
    have k4' : W1.heap[w.heap.size]? = some (.cells #[.bool false, .int .i64 a1, .string A] 51 (0, 0)) := by
      rw [hW1]
      exact (Val.set_far _ _ _ _ _ (by omega)).trans (Val.set_blk k4 2 _)
    have k5' : W1.heap[w.heap.size + 1]? = some (.cells #[.bool false, .int .i64 b1, .string B] 51 (0, 0)) := by
      rw [hW1]
      exact Val.set_blk ((Val.set_far _ _ _ _ _ (by omega)).trans k5) 2 _
    have HB1 : Aside0 (Below w.heap.size w W1) := ⟨by rw [hW1]; exact below_drew1 (((HB0.out).setCell (Nat.le_refl _) _).setCell (Nat.le_succ _) _)⟩
    clear hW1 k4 k5 HB0
    have HB0 := HB1
    clear HB1
    go_upto_region 2 with (fail)
    have hS : Aside0 (∀ w', Below W1.heap.size W1 w' → w'.cell? ⟨w.heap.size, 0, none⟩ = some (.bool false) ∧ w'.cell? ⟨w.heap.size, 1, none⟩ = some (.int .i64 a1) ∧ w'.cell? ⟨w.heap.size, 2, none⟩ = some (.string A) ∧ w'.cell? ⟨w.heap.size + 1, 0, none⟩ = some (.bool false) ∧ w'.cell? ⟨w.heap.size + 1, 1, none⟩ = some (.int .i64 b1) ∧ w'.cell? ⟨w.heap.size + 1, 2, none⟩ = some (.string B)) := ⟨fun w' hw => ⟨(Val.cell_blk ((hw.block _ (Val.lt_blk k4')).trans k4') 0).trans rfl, (Val.cell_blk ((hw.block _ (Val.lt_blk k4')).trans k4') 1).trans rfl, (Val.cell_blk ((hw.block _ (Val.lt_blk k4')).trans k4') 2).trans rfl, (Val.cell_blk ((hw.block _ (Val.lt_blk k5')).trans k5') 0).trans rfl, (Val.cell_blk ((hw.block _ (Val.lt_blk k5')).trans k5') 1).trans rfl, (Val.cell_blk ((hw.block _ (Val.lt_blk k5')).trans k5') 2).trans rfl⟩⟩
    clear k4' k5'
    generalize w.heap.size + 1 = g1 at hS ⊢
    generalize hg0 : w.heap.size = g0 at hS ⊢
    as_aux_lemma =>
      refine start_ (n := 6) (S := fun w' => w'.cell? ⟨g0, 0, none⟩ = some (.bool false) ∧ w'.cell? ⟨g0, 1, none⟩ = some (.int .i64 a1) ∧ w'.cell? ⟨g0, 2, none⟩ = some (.string A) ∧ w'.cell? ⟨g1, 0, none⟩ = some (.bool false) ∧ w'.cell? ⟨g1, 1, none⟩ = some (.int .i64 b1) ∧ w'.cell? ⟨g1, 2, none⟩ = some (.string B)) (ds := []) #[false, false, false, false, false, false] (by kernel_rfl) rfl rfl (hS.out _ (below_drew1 (Below.refl _ _))) (fun hHeld => ?_)
      have hb0 : Below W1.heap.size W1 W1.drew := below_drew1 (Below.refl _ _)
      generalize W1.drew = V0 at hb0 hHeld ⊢
      refine take_ (i := 0) (N := (some 33)) (v := ?_) (a' := ?_) #[true, false, false, false, false, false] rfl rfl (by kernel_rfl) (fun _ _ _ h => h) (Or.inl ⟨by rfl, ?_⟩) hHeld ?_ ?_
      rotate_left
      · rintro w' ⟨s0, s1, s2, s3, s4, s5⟩
        go_simp
        with_reducible rfl
      rotate_left
      · simp only [Act.put, List.setIfInBounds_toArray, List.set_cons_zero, List.set_cons_succ, i64_w, i32_w]
        rfl
      refine take_ (i := 2) (N := (some 35)) (v := ?_) (a' := ?_) #[true, false, true, false, false, false] rfl rfl (by kernel_rfl) (fun _ _ _ h => h) (Or.inl ⟨by rfl, ?_⟩) hHeld ?_ ?_
      rotate_left
      · rintro w' ⟨s0, s1, s2, s3, s4, s5⟩
        go_simp
        with_reducible rfl
      rotate_left
      · simp only [Act.put, List.setIfInBounds_toArray, List.set_cons_zero, List.set_cons_succ, i64_w, i32_w]
        rfl
      refine one_ (i := 1) (N := (some 34)) #[true, true, true, false, false, false] rfl rfl (by kernel_rfl) (by decide) (fun K hK => ?_)
      refine goes_ Tryd.func30 (by kernel_rfl) rfl #[.agg #[.bool false, .int .i64 a1, .string A]] (by rfl) rfl rfl (by (try simp only [List.map_toArray, List.map_cons, List.map_nil]); first | done | rfl) ?_
      refine (value_Right.calls false a1 A true _ RA.out).mono ?_
      rintro e V1 ⟨rfl, hbc⟩
      refine ⟨_, rfl, ?_⟩
      have hb1 : Below W1.heap.size W1 V1 := below_step hb0 hbc
      refine hK.out _ _ (hS.out _ hb1) (fun hHeld => ?_)
      clear hK K hbc
      refine norm_ (a' := ?_) ?_ ?_
      rotate_left
      · show Act.put _ (some 34) _ = _
        simp only [Act.put, List.setIfInBounds_toArray, List.set_cons_zero, List.set_cons_succ, i64_w, i32_w]
        rfl
      refine one_ (i := 3) (N := (some 36)) #[true, true, true, true, false, false] rfl rfl (by kernel_rfl) (by decide) (fun K hK => ?_)
      refine goes_ Tryd.func30 (by kernel_rfl) rfl #[.agg #[.bool false, .int .i64 b1, .string B]] (by rfl) rfl rfl (by (try simp only [List.map_toArray, List.map_cons, List.map_nil]); first | done | rfl) ?_
      refine (value_Right.calls false b1 B true _ RB.out).mono ?_
      rintro e V2 ⟨rfl, hbc⟩
      refine ⟨_, rfl, ?_⟩
      have hb2 : Below W1.heap.size W1 V2 := below_step hb1 hbc
      refine hK.out _ _ (hS.out _ hb2) (fun hHeld => ?_)
      clear hK K hbc
      refine norm_ (a' := ?_) ?_ ?_
      rotate_left
      · show Act.put _ (some 36) _ = _
        simp only [Act.put, List.setIfInBounds_toArray, List.set_cons_zero, List.set_cons_succ, i64_w, i32_w]
        rfl
      refine pure_ (i := 4) (N := (some 9)) (v := ?_) (a' := ?_) #[true, true, true, true, true, false] rfl rfl (by kernel_rfl) (fun _ _ _ h => h) (Or.inl ⟨by rfl, ?_⟩) ?_ ?_
      rotate_left
      · intro w'
        go_simp
        with_reducible rfl
      rotate_left
      · simp only [Act.put, List.setIfInBounds_toArray, List.set_cons_zero, List.set_cons_succ, i64_w, i32_w]
        rfl
      refine pure_ (i := 5) (N := (some 10)) (v := ?_) (a' := ?_) #[true, true, true, true, true, true] rfl rfl (by kernel_rfl) (fun _ _ _ h => h) (Or.inl ⟨by rfl, ?_⟩) ?_ ?_
      rotate_left
      · intro w'
        go_simp
        with_reducible rfl
      rotate_left
      · simp only [Act.put, List.setIfInBounds_toArray, List.set_cons_zero, List.set_cons_succ, i64_w, i32_w]
        rfl
      refine done_ (by kernel_rfl) ?_
      have HB := Aside0.mk hb2
      clear hb0 hb1 hb2 hHeld
      obtain ⟨r0, r1, r2, r3, r4, r5⟩ := hS.out _ HB.out
      as_aux_lemma =>
        have EN : ∀ w, (binOp .neq 51 (.agg #[.bool false, .int .i64 n, .string ⟨#[]⟩]) (.agg #[.bool false, .int .i64 n, .string ⟨#[]⟩])).run Tryd.prog w = .ok (.bool false) w := fun w => by rw [neq51]; simp [eqV]
        have ET : ∀ w, (binOp .neq 51 (.agg #[.bool true, .int .i64 0, .string S]) (.agg #[.bool true, .int .i64 0, .string S])).run Tryd.prog w = .ok (.bool false) w := fun w => by rw [neq51]; simp [eqV]
        go_upto_region 5 with (first | ((with_reducible refine gate_callee (f := 31) rfl ?_); refine goesL_ (some 39) rfl rfl Tryd.func31 (by kernel_rfl) rfl #[.agg #[.bool false, .int .i64 a1, .string A]] rfl (by (try simp only [List.map_toArray, List.map_cons, List.map_nil]); first | done | rfl) ?_; (with_reducible refine (broadsideref1_RightValue.calls false a1 A true _ RV.out).mono ?_); rintro e w9 ⟨rfl, hb⟩; refine ⟨_, rfl, ?_⟩; have n0_ := Aside0.mk (below_step HB.out hb); clear HB; have HB := n0_; clear n0_ hb r0 r1 r2 r3 r4 r5; obtain ⟨r0, r1, r2, r3, r4, r5⟩ := hS.out _ HB.out) | (with_reducible refine (broadsideref1_RightValue.calls false a1 A true _ RV.out).mono ?_; rintro e w9 ⟨rfl, hb⟩; have n0_ := Aside0.mk (below_step HB.out hb); clear HB; have HB := n0_; clear n0_ hb r0 r1 r2 r3 r4 r5; obtain ⟨r0, r1, r2, r3, r4, r5⟩ := hS.out _ HB.out) | ((with_reducible refine gate_callee (f := 27) rfl ?_); refine goesL_ (some 43) rfl rfl Tryd.func27 (by kernel_rfl) rfl #[.int .i64 n] rfl (by (try simp only [List.map_toArray, List.map_cons, List.map_nil]); first | done | rfl) ?_; (with_reducible refine (value_Number.calls n _ _ _ _ rfl).mono ?_); rintro e w9 ⟨rfl, hb⟩; refine ⟨_, rfl, ?_⟩; have n0_ := Aside0.mk (below_step HB.out hb); clear HB; have HB := n0_; clear n0_ hb r0 r1 r2 r3 r4 r5; obtain ⟨r0, r1, r2, r3, r4, r5⟩ := hS.out _ HB.out) | (with_reducible refine (value_Number.calls n _ _ _ _ rfl).mono ?_; rintro e w9 ⟨rfl, hb⟩; have n0_ := Aside0.mk (below_step HB.out hb); clear HB; have HB := n0_; clear n0_ hb r0 r1 r2 r3 r4 r5; obtain ⟨r0, r1, r2, r3, r4, r5⟩ := hS.out _ HB.out) | ((with_reducible refine gate_callee (f := 28) rfl ?_); refine goesL_ (some 50) rfl rfl Tryd.func28 (by kernel_rfl) rfl #[.string S] rfl (by (try simp only [List.map_toArray, List.map_cons, List.map_nil]); first | done | rfl) ?_; (with_reducible refine (value_Text.calls S _ _ _ _ rfl).mono ?_); rintro e w9 ⟨rfl, hb⟩; refine ⟨_, rfl, ?_⟩; have n0_ := Aside0.mk (below_step HB.out hb); clear HB; have HB := n0_; clear n0_ hb r0 r1 r2 r3 r4 r5; obtain ⟨r0, r1, r2, r3, r4, r5⟩ := hS.out _ HB.out) | (with_reducible refine (value_Text.calls S _ _ _ _ rfl).mono ?_; rintro e w9 ⟨rfl, hb⟩; have n0_ := Aside0.mk (below_step HB.out hb); clear HB; have HB := n0_; clear n0_ hb r0 r1 r2 r3 r4 r5; obtain ⟨r0, r1, r2, r3, r4, r5⟩ := hS.out _ HB.out) | ((with_reducible refine gate_callee (f := 7) rfl ?_); refine goesL_ (some 80) rfl rfl Tryd.func7 (by kernel_rfl) rfl #[] rfl (by (try simp only [List.map_toArray, List.map_cons, List.map_nil]); first | done | rfl) ?_; (with_reducible refine (runs_calls _ (Val.tb HTAB (below_step HB0.out HB.out))).mono ?_); rintro e w9 ⟨rfl, hb⟩; refine ⟨_, rfl, ?_⟩; have n0_ := Aside0.mk (below_step HB.out hb); clear HB; have HB := n0_; clear n0_ hb r0 r1 r2 r3 r4 r5; obtain ⟨r0, r1, r2, r3, r4, r5⟩ := hS.out _ HB.out) | (with_reducible refine (runs_calls _ (Val.tb HTAB (below_step HB0.out HB.out))).mono ?_; rintro e w9 ⟨rfl, hb⟩; have n0_ := Aside0.mk (below_step HB.out hb); clear HB; have HB := n0_; clear n0_ hb r0 r1 r2 r3 r4 r5; obtain ⟨r0, r1, r2, r3, r4, r5⟩ := hS.out _ HB.out))
        clear EN ET
        as_aux_lemma =>
          · skip
            go_upto_region 12 with (first | ((with_reducible refine gate_callee (f := 31) rfl ?_); refine goesL_ (some 39) rfl rfl Tryd.func31 (by kernel_rfl) rfl #[.agg #[.bool false, .int .i64 a1, .string A]] rfl (by (try simp only [List.map_toArray, List.map_cons, List.map_nil]); first | done | rfl) ?_; (with_reducible refine (broadsideref1_RightValue.calls false a1 A true _ RV.out).mono ?_); rintro e w9 ⟨rfl, hb⟩; refine ⟨_, rfl, ?_⟩; have n0_ := Aside0.mk (below_step HB.out hb); clear HB; have HB := n0_; clear n0_ hb r0 r1 r2 r3 r4 r5; obtain ⟨r0, r1, r2, r3, r4, r5⟩ := hS.out _ HB.out) | (with_reducible refine (broadsideref1_RightValue.calls false a1 A true _ RV.out).mono ?_; rintro e w9 ⟨rfl, hb⟩; have n0_ := Aside0.mk (below_step HB.out hb); clear HB; have HB := n0_; clear n0_ hb r0 r1 r2 r3 r4 r5; obtain ⟨r0, r1, r2, r3, r4, r5⟩ := hS.out _ HB.out) | ((with_reducible refine gate_callee (f := 27) rfl ?_); refine goesL_ (some 43) rfl rfl Tryd.func27 (by kernel_rfl) rfl #[.int .i64 n] rfl (by (try simp only [List.map_toArray, List.map_cons, List.map_nil]); first | done | rfl) ?_; (with_reducible refine (value_Number.calls n _ _ _ _ rfl).mono ?_); rintro e w9 ⟨rfl, hb⟩; refine ⟨_, rfl, ?_⟩; have n0_ := Aside0.mk (below_step HB.out hb); clear HB; have HB := n0_; clear n0_ hb r0 r1 r2 r3 r4 r5; obtain ⟨r0, r1, r2, r3, r4, r5⟩ := hS.out _ HB.out) | (with_reducible refine (value_Number.calls n _ _ _ _ rfl).mono ?_; rintro e w9 ⟨rfl, hb⟩; have n0_ := Aside0.mk (below_step HB.out hb); clear HB; have HB := n0_; clear n0_ hb r0 r1 r2 r3 r4 r5; obtain ⟨r0, r1, r2, r3, r4, r5⟩ := hS.out _ HB.out) | ((with_reducible refine gate_callee (f := 28) rfl ?_); refine goesL_ (some 50) rfl rfl Tryd.func28 (by kernel_rfl) rfl #[.string S] rfl (by (try simp only [List.map_toArray, List.map_cons, List.map_nil]); first | done | rfl) ?_; (with_reducible refine (value_Text.calls S _ _ _ _ rfl).mono ?_); rintro e w9 ⟨rfl, hb⟩; refine ⟨_, rfl, ?_⟩; have n0_ := Aside0.mk (below_step HB.out hb); clear HB; have HB := n0_; clear n0_ hb r0 r1 r2 r3 r4 r5; obtain ⟨r0, r1, r2, r3, r4, r5⟩ := hS.out _ HB.out) | (with_reducible refine (value_Text.calls S _ _ _ _ rfl).mono ?_; rintro e w9 ⟨rfl, hb⟩; have n0_ := Aside0.mk (below_step HB.out hb); clear HB; have HB := n0_; clear n0_ hb r0 r1 r2 r3 r4 r5; obtain ⟨r0, r1, r2, r3, r4, r5⟩ := hS.out _ HB.out) | ((with_reducible refine gate_callee (f := 7) rfl ?_); refine goesL_ (some 80) rfl rfl Tryd.func7 (by kernel_rfl) rfl #[] rfl (by (try simp only [List.map_toArray, List.map_cons, List.map_nil]); first | done | rfl) ?_; (with_reducible refine (runs_calls _ (Val.tb HTAB (below_step HB0.out HB.out))).mono ?_); rintro e w9 ⟨rfl, hb⟩; refine ⟨_, rfl, ?_⟩; have n0_ := Aside0.mk (below_step HB.out hb); clear HB; have HB := n0_; clear n0_ hb r0 r1 r2 r3 r4 r5; obtain ⟨r0, r1, r2, r3, r4, r5⟩ := hS.out _ HB.out) | (with_reducible refine (runs_calls _ (Val.tb HTAB (below_step HB0.out HB.out))).mono ?_; rintro e w9 ⟨rfl, hb⟩; have n0_ := Aside0.mk (below_step HB.out hb); clear HB; have HB := n0_; clear n0_ hb r0 r1 r2 r3 r4 r5; obtain ⟨r0, r1, r2, r3, r4, r5⟩ := hS.out _ HB.out))
            have LAB : Aside0 (value_Less.f false a1 A false b1 B = some (decide (a1 < b1))) := ⟨rfl⟩
            have EQ0 : ∀ w, (binOp .eql 51 (.agg #[.bool false, .int .i64 a1, .string A]) (.agg #[.bool false, .int .i64 b1, .string B])).run Tryd.prog w = .ok (.bool E) w := fun w => by rw [eq51, EQ.out]
            have ES0 := ES.out
            have EU0 := EU.out
            generalize hL : (decide (a1 < b1)) = LL at LAB ⊢
            as_aux_lemma =>
              obtain ⟨Wc, hWc⟩ : ∃ Wc, Wc = w9 := ⟨_, rfl⟩
              subst hWc
              refine start_ (n := 25) (S := fun w' => w'.cell? ⟨g0, 0, none⟩ = some (.bool false) ∧ w'.cell? ⟨g0, 1, none⟩ = some (.int .i64 a1) ∧ w'.cell? ⟨g0, 2, none⟩ = some (.string A) ∧ w'.cell? ⟨g1, 0, none⟩ = some (.bool false) ∧ w'.cell? ⟨g1, 1, none⟩ = some (.int .i64 b1) ∧ w'.cell? ⟨g1, 2, none⟩ = some (.string B)) (ds := []) #[false, false, false, false, false, false, false, false, false, false, false, false, false, false, false, false, false, false, false, false, false, false, false, false, false] (by kernel_rfl) rfl rfl (hS.out _ (below_drew1 HB.out)) (fun hHeld => ?_)
              have hb0 : Below W1.heap.size W1 Wc.drew := below_drew1 HB.out
              generalize Wc.drew = V0 at hb0 hHeld ⊢
              refine take_ (i := 0) (N := (some 81)) (v := ?_) (a' := ?_) #[true, false, false, false, false, false, false, false, false, false, false, false, false, false, false, false, false, false, false, false, false, false, false, false, false] rfl rfl (by kernel_rfl) (fun _ _ _ h => h) (Or.inl ⟨by rfl, ?_⟩) hHeld ?_ ?_
              rotate_left
              · rintro w' ⟨s0, s1, s2, s3, s4, s5⟩
                go_simp
                with_reducible rfl
              rotate_left
              · simp only [Act.put, List.setIfInBounds_toArray, List.set_cons_zero, List.set_cons_succ, i64_w, i32_w]
                rfl
              refine take_ (i := 1) (N := (some 82)) (v := ?_) (a' := ?_) #[true, true, false, false, false, false, false, false, false, false, false, false, false, false, false, false, false, false, false, false, false, false, false, false, false] rfl rfl (by kernel_rfl) (fun _ _ _ h => h) (Or.inl ⟨by rfl, ?_⟩) hHeld ?_ ?_
              rotate_left
              · rintro w' ⟨s0, s1, s2, s3, s4, s5⟩
                go_simp
                with_reducible rfl
              rotate_left
              · simp only [Act.put, List.setIfInBounds_toArray, List.set_cons_zero, List.set_cons_succ, i64_w, i32_w]
                rfl
              refine pure_ (i := 3) (N := (some 84)) (v := ?_) (a' := ?_) #[true, true, false, true, false, false, false, false, false, false, false, false, false, false, false, false, false, false, false, false, false, false, false, false, false] rfl rfl (by kernel_rfl) (fun _ _ _ h => h) (Or.inl ⟨by rfl, ?_⟩) ?_ ?_
              rotate_left
              · intro w'
                go_simp
                with_reducible rfl
              rotate_left
              · simp only [Act.put, List.setIfInBounds_toArray, List.set_cons_zero, List.set_cons_succ, i64_w, i32_w]
                rfl
              refine one_ (i := 2) (N := (some 83)) #[true, true, true, true, false, false, false, false, false, false, false, false, false, false, false, false, false, false, false, false, false, false, false, false, false] rfl rfl (by kernel_rfl) (by decide) (fun K hK => ?_)
              refine goes_ Tryd.func26 (by kernel_rfl) rfl #[.agg #[.bool false, .int .i64 a1, .string A], .agg #[.bool false, .int .i64 b1, .string B]] (by rfl) rfl rfl (by (try simp only [List.map_toArray, List.map_cons, List.map_nil]); first | done | rfl) ?_
              refine (value_Less.calls false a1 A false b1 B LL _ LAB.out).mono ?_
              rintro e V1 ⟨rfl, hbc⟩
              refine ⟨_, rfl, ?_⟩
              have hb1 : Below W1.heap.size W1 V1 := below_step hb0 hbc
              refine hK.out _ _ (hS.out _ hb1) (fun hHeld => ?_)
              clear hK K hbc
              refine norm_ (a' := ?_) ?_ ?_
              rotate_left
              · show Act.put _ (some 83) _ = _
                simp only [Act.put, List.setIfInBounds_toArray, List.set_cons_zero, List.set_cons_succ, i64_w, i32_w]
                rfl
              refine pure_ (i := 4) (N := (some 85)) (v := ?_) (a' := ?_) #[true, true, true, true, true, false, false, false, false, false, false, false, false, false, false, false, false, false, false, false, false, false, false, false, false] rfl rfl (by kernel_rfl) (fun _ _ _ h => h) (Or.inl ⟨by rfl, ?_⟩) ?_ ?_
              rotate_left
              · intro w'
                go_simp
                with_reducible rfl
              rotate_left
              · simp only [Act.put, List.setIfInBounds_toArray, List.set_cons_zero, List.set_cons_succ, i64_w, i32_w]
                rfl
              refine pure_ (i := 5) (N := (some 86)) (v := ?_) (a' := ?_) #[true, true, true, true, true, true, false, false, false, false, false, false, false, false, false, false, false, false, false, false, false, false, false, false, false] rfl rfl (by kernel_rfl) (fun _ _ _ h => h) (Or.inl ⟨by rfl, ?_⟩) ?_ ?_
              rotate_left
              · intro w'
                go_simp
                with_reducible rfl
              rotate_left
              · simp only [Act.put, List.setIfInBounds_toArray, List.set_cons_zero, List.set_cons_succ, i64_w, i32_w]
                rfl
              refine take_ (i := 6) (N := (some 87)) (v := ?_) (a' := ?_) #[true, true, true, true, true, true, true, false, false, false, false, false, false, false, false, false, false, false, false, false, false, false, false, false, false] rfl rfl (by kernel_rfl) (fun _ _ _ h => h) (Or.inl ⟨by rfl, ?_⟩) hHeld ?_ ?_
              rotate_left
              · rintro w' ⟨s0, s1, s2, s3, s4, s5⟩
                go_simp
                with_reducible rfl
              rotate_left
              · simp only [Act.put, List.setIfInBounds_toArray, List.set_cons_zero, List.set_cons_succ, i64_w, i32_w]
                rfl
              refine take_ (i := 8) (N := (some 89)) (v := ?_) (a' := ?_) #[true, true, true, true, true, true, true, false, true, false, false, false, false, false, false, false, false, false, false, false, false, false, false, false, false] rfl rfl (by kernel_rfl) (fun _ _ _ h => h) (Or.inl ⟨by rfl, ?_⟩) hHeld ?_ ?_
              rotate_left
              · rintro w' ⟨s0, s1, s2, s3, s4, s5⟩
                go_simp
                with_reducible rfl
              rotate_left
              · simp only [Act.put, List.setIfInBounds_toArray, List.set_cons_zero, List.set_cons_succ, i64_w, i32_w]
                rfl
              refine take_ (i := 11) (N := (some 92)) (v := ?_) (a' := ?_) #[true, true, true, true, true, true, true, false, true, false, false, true, false, false, false, false, false, false, false, false, false, false, false, false, false] rfl rfl (by kernel_rfl) (fun _ _ _ h => h) (Or.inl ⟨by rfl, ?_⟩) hHeld ?_ ?_
              rotate_left
              · rintro w' ⟨s0, s1, s2, s3, s4, s5⟩
                go_simp
                with_reducible rfl
              rotate_left
              · simp only [Act.put, List.setIfInBounds_toArray, List.set_cons_zero, List.set_cons_succ, i64_w, i32_w]
                rfl
              refine take_ (i := 12) (N := (some 93)) (v := ?_) (a' := ?_) #[true, true, true, true, true, true, true, false, true, false, false, true, true, false, false, false, false, false, false, false, false, false, false, false, false] rfl rfl (by kernel_rfl) (fun _ _ _ h => h) (Or.inl ⟨by rfl, ?_⟩) hHeld ?_ ?_
              rotate_left
              · rintro w' ⟨s0, s1, s2, s3, s4, s5⟩
                go_simp
                with_reducible rfl
              rotate_left
              · simp only [Act.put, List.setIfInBounds_toArray, List.set_cons_zero, List.set_cons_succ, i64_w, i32_w]
                rfl
              refine pure_ (i := 13) (N := (some 94)) (v := ?_) (a' := ?_) #[true, true, true, true, true, true, true, false, true, false, false, true, true, true, false, false, false, false, false, false, false, false, false, false, false] rfl rfl (by kernel_rfl) (fun _ _ _ h => h) (Or.inl ⟨by rfl, ?_⟩) ?_ ?_
              rotate_left
              · intro w'
                go_simp
                with_reducible rfl
              rotate_left
              · simp only [Act.put, List.setIfInBounds_toArray, List.set_cons_zero, List.set_cons_succ, i64_w, i32_w]
                rfl
              refine one_ (i := 7) (N := (some 88)) #[true, true, true, true, true, true, true, true, true, false, false, true, true, true, false, false, false, false, false, false, false, false, false, false, false] rfl rfl (by kernel_rfl) (by decide) (fun K hK => ?_)
              refine goes_ Tryd.func29 (by kernel_rfl) rfl #[.agg #[.bool false, .int .i64 a1, .string A]] (by rfl) rfl rfl (by (try simp only [List.map_toArray, List.map_cons, List.map_nil]); first | done | rfl) ?_
              refine (value_Say.calls false a1 A u _ (Val.tb HTAB (below_step HB0.out hb1)) SA.out).mono ?_
              rintro e V2 ⟨rfl, hbc⟩
              refine ⟨_, rfl, ?_⟩
              have hb2 : Below W1.heap.size W1 V2 := below_step hb1 hbc
              refine hK.out _ _ (hS.out _ hb2) (fun hHeld => ?_)
              clear hK K hbc
              refine norm_ (a' := ?_) ?_ ?_
              rotate_left
              · show Act.put _ (some 88) _ = _
                simp only [Act.put, List.setIfInBounds_toArray, List.set_cons_zero, List.set_cons_succ, i64_w, i32_w]
                rfl
              refine one_ (i := 9) (N := (some 90)) #[true, true, true, true, true, true, true, true, true, true, false, true, true, true, false, false, false, false, false, false, false, false, false, false, false] rfl rfl (by kernel_rfl) (by decide) (fun K hK => ?_)
              refine goes_ Tryd.func29 (by kernel_rfl) rfl #[.agg #[.bool false, .int .i64 b1, .string B]] (by rfl) rfl rfl (by (try simp only [List.map_toArray, List.map_cons, List.map_nil]); first | done | rfl) ?_
              refine (value_Say.calls false b1 B v _ (Val.tb HTAB (below_step HB0.out hb2)) SB.out).mono ?_
              rintro e V3 ⟨rfl, hbc⟩
              refine ⟨_, rfl, ?_⟩
              have hb3 : Below W1.heap.size W1 V3 := below_step hb2 hbc
              refine hK.out _ _ (hS.out _ hb3) (fun hHeld => ?_)
              clear hK K hbc
              refine norm_ (a' := ?_) ?_ ?_
              rotate_left
              · show Act.put _ (some 90) _ = _
                simp only [Act.put, List.setIfInBounds_toArray, List.set_cons_zero, List.set_cons_succ, i64_w, i32_w]
                rfl
              refine pure_ (i := 10) (N := (some 91)) (v := ?_) (a' := ?_) #[true, true, true, true, true, true, true, true, true, true, true, true, true, true, false, false, false, false, false, false, false, false, false, false, false] rfl rfl (by kernel_rfl) (fun _ _ _ h => h) (Or.inl ⟨by rfl, ?_⟩) ?_ ?_
              rotate_left
              · intro w'
                go_simp
                with_reducible rfl
              rotate_left
              · simp only [Act.put, List.setIfInBounds_toArray, List.set_cons_zero, List.set_cons_succ, i64_w, i32_w]
                rfl
              refine pure_ (i := 14) (N := (some 95)) (v := ?_) (a' := ?_) #[true, true, true, true, true, true, true, true, true, true, true, true, true, true, true, false, false, false, false, false, false, false, false, false, false] rfl rfl (by kernel_rfl) (fun _ _ _ h => h) (Or.inl ⟨by rfl, ?_⟩) ?_ ?_
              rotate_left
              · intro w'
                go_simp
                with_reducible rfl
              rotate_left
              · simp only [Act.put, List.setIfInBounds_toArray, List.set_cons_zero, List.set_cons_succ, i64_w, i32_w]
                rfl
              refine pure_ (i := 15) (N := (some 96)) (v := ?_) (a' := ?_) #[true, true, true, true, true, true, true, true, true, true, true, true, true, true, true, true, false, false, false, false, false, false, false, false, false] rfl rfl (by kernel_rfl) (fun _ _ _ h => h) (Or.inl ⟨by rfl, ?_⟩) ?_ ?_
              rotate_left
              · intro w'
                go_simp
                with_reducible rfl
              rotate_left
              · simp only [Act.put, List.setIfInBounds_toArray, List.set_cons_zero, List.set_cons_succ, i64_w, i32_w]
                rfl
              refine pure_ (i := 16) (N := (some 97)) (v := ?_) (a' := ?_) #[true, true, true, true, true, true, true, true, true, true, true, true, true, true, true, true, true, false, false, false, false, false, false, false, false] rfl rfl (by kernel_rfl) (fun _ _ _ h => h) (Or.inl ⟨by rfl, ?_⟩) ?_ ?_
              rotate_left
              · intro w'
                go_simp
                with_reducible rfl
              rotate_left
              · simp only [Act.put, List.setIfInBounds_toArray, List.set_cons_zero, List.set_cons_succ, i64_w, i32_w]
                rfl
              refine take_ (i := 17) (N := (some 98)) (v := ?_) (a' := ?_) #[true, true, true, true, true, true, true, true, true, true, true, true, true, true, true, true, true, true, false, false, false, false, false, false, false] rfl rfl (by kernel_rfl) (fun _ _ _ h => h) (Or.inl ⟨by rfl, ?_⟩) hHeld ?_ ?_
              rotate_left
              · rintro w' ⟨s0, s1, s2, s3, s4, s5⟩
                go_simp
                with_reducible rfl
              rotate_left
              · simp only [Act.put, List.setIfInBounds_toArray, List.set_cons_zero, List.set_cons_succ, i64_w, i32_w]
                rfl
              refine one_ (i := 18) (N := (some 99)) #[true, true, true, true, true, true, true, true, true, true, true, true, true, true, true, true, true, true, true, false, false, false, false, false, false] rfl rfl (by kernel_rfl) (by decide) (fun K hK => ?_)
              refine goes_ Tryd.func29 (by kernel_rfl) rfl #[.agg #[.bool false, .int .i64 a1, .string A]] (by rfl) rfl rfl (by (try simp only [List.map_toArray, List.map_cons, List.map_nil]); first | done | rfl) ?_
              refine (value_Say.calls false a1 A u _ (Val.tb HTAB (below_step HB0.out hb3)) SA.out).mono ?_
              rintro e V4 ⟨rfl, hbc⟩
              refine ⟨_, rfl, ?_⟩
              have hb4 : Below W1.heap.size W1 V4 := below_step hb3 hbc
              refine hK.out _ _ (hS.out _ hb4) (fun hHeld => ?_)
              clear hK K hbc
              refine norm_ (a' := ?_) ?_ ?_
              rotate_left
              · show Act.put _ (some 99) _ = _
                simp only [Act.put, List.setIfInBounds_toArray, List.set_cons_zero, List.set_cons_succ, i64_w, i32_w]
                rfl
              refine pure_ (i := 19) (N := (some 100)) (v := ?_) (a' := ?_) #[true, true, true, true, true, true, true, true, true, true, true, true, true, true, true, true, true, true, true, true, false, false, false, false, false] rfl rfl (by kernel_rfl) (fun _ _ _ h => h) (Or.inl ⟨by rfl, ?_⟩) ?_ ?_
              rotate_left
              · intro w'
                go_simp
                with_reducible rfl
              rotate_left
              · simp only [Act.put, List.setIfInBounds_toArray, List.set_cons_zero, List.set_cons_succ, i64_w, i32_w]
                rfl
              refine pure_ (i := 20) (N := (some 101)) (v := ?_) (a' := ?_) #[true, true, true, true, true, true, true, true, true, true, true, true, true, true, true, true, true, true, true, true, true, false, false, false, false] rfl rfl (by kernel_rfl) (fun _ _ _ h => h) (Or.inl ⟨by rfl, ?_⟩) ?_ ?_
              rotate_left
              · intro w'
                go_simp
                with_reducible rfl
              rotate_left
              · simp only [Act.put, List.setIfInBounds_toArray, List.set_cons_zero, List.set_cons_succ, i64_w, i32_w]
                rfl
              refine pure_ (i := 21) (N := (some 102)) (v := ?_) (a' := ?_) #[true, true, true, true, true, true, true, true, true, true, true, true, true, true, true, true, true, true, true, true, true, true, false, false, false] rfl rfl (by kernel_rfl) (fun _ _ _ h => h) (Or.inl ⟨by rfl, ?_⟩) ?_ ?_
              rotate_left
              · intro w'
                go_simp
                with_reducible rfl
              rotate_left
              · simp only [Act.put, List.setIfInBounds_toArray, List.set_cons_zero, List.set_cons_succ, i64_w, i32_w]
                rfl
              refine one_ (i := 22) (N := (some 103)) #[true, true, true, true, true, true, true, true, true, true, true, true, true, true, true, true, true, true, true, true, true, true, true, false, false] rfl rfl (by kernel_rfl) (by decide) (fun K hK => ?_)
              refine goes_ Tryd.func7 (by kernel_rfl) rfl #[] (by rfl) rfl rfl (by (try simp only [List.map_toArray, List.map_cons, List.map_nil]); first | done | rfl) ?_
              refine (runs_calls _ (Val.tb HTAB (below_step HB0.out hb4))).mono ?_
              rintro e V5 ⟨rfl, hbc⟩
              refine ⟨_, rfl, ?_⟩
              have hb5 : Below W1.heap.size W1 V5 := below_step hb4 hbc
              refine hK.out _ _ (hS.out _ hb5) (fun hHeld => ?_)
              clear hK K hbc
              refine norm_ (a' := ?_) ?_ ?_
              rotate_left
              · show Act.put _ (some 103) _ = _
                simp only [Act.put, List.setIfInBounds_toArray, List.set_cons_zero, List.set_cons_succ, i64_w, i32_w]
                rfl
              refine pure_ (i := 23) (N := (some 104)) (v := ?_) (a' := ?_) #[true, true, true, true, true, true, true, true, true, true, true, true, true, true, true, true, true, true, true, true, true, true, true, true, false] rfl rfl (by kernel_rfl) (fun _ _ _ h => h) (Or.inl ⟨by rfl, ?_⟩) ?_ ?_
              rotate_left
              · intro w'
                go_simp
                with_reducible rfl
              rotate_left
              · simp only [Act.put, List.setIfInBounds_toArray, List.set_cons_zero, List.set_cons_succ, i64_w, i32_w]
                rfl
              refine pure_ (i := 24) (N := (some 8)) (v := ?_) (a' := ?_) #[true, true, true, true, true, true, true, true, true, true, true, true, true, true, true, true, true, true, true, true, true, true, true, true, true] rfl rfl (by kernel_rfl) (fun _ _ _ h => h) (Or.inl ⟨by rfl, ?_⟩) ?_ ?_
              rotate_left
              · intro w'
                go_simp
                with_reducible rfl
              rotate_left
              · simp only [Act.put, List.setIfInBounds_toArray, List.set_cons_zero, List.set_cons_succ, i64_w, i32_w]
                rfl
              refine done_ (by kernel_rfl) ?_
              have HF := Aside0.mk (below_step HB0.out hb5)
              go_wp2
              go_ret
              exact ⟨rfl, HF.out⟩
set_option maxRecDepth 1000000 in
set_option maxHeartbeats 3200000 in
theorem tells_tt_01 (a1 : Int) (a2 : ByteArray) (b1 : Int) (b2 : ByteArray) (n : Int) (s : ByteArray) (w : World) (HTAB : Aside0 (Val.Tab w)) (ma mb ms : Int) (A B S : ByteArray)
    (ema : (if 15 < (a2.size : Int) then 15 else (a2.size : Int)) = ma) (emb : (if 15 < (b2.size : Int) then 15 else (b2.size : Int)) = mb) (ems : (if 15 < (s.size : Int) then 15 else (s.size : Int)) = ms)
    (hca : ∀ w, (Instr.slice 9 (.string a2) none (some (.int .i64 ma)) none).run Tryd.prog w = .ok (.string A) w) (hcb : ∀ w, (Instr.slice 9 (.string b2) none (some (.int .i64 mb)) none).run Tryd.prog w = .ok (.string B) w) (hcs : ∀ w, (Instr.slice 9 (.string s) none (some (.int .i64 ms)) none).run Tryd.prog w = .ok (.string S) w)
    (RA : Aside0 (value_Right.f false a1 A = some true)) (RB : Aside0 (value_Right.f true b1 B = some true)) (RV : Aside0 (broadsideref1_RightValue.f false a1 A = some true)) (u v : ByteArray) (E : Bool) (SA : Aside0 (value_Say.f false a1 A = some u)) (SB : Aside0 (value_Say.f true b1 B = some v)) (EQ : Aside0 (eqV false a1 A true b1 B = E)) (ES : Aside0 ((u.toList == v.toList) = E)) (EU : Aside0 ((u.toList == ([] : List UInt8)) = false)) :
    Calls Tryd.prog 8 #[.agg #[.bool false, .int .i64 a1, .string a2], .agg #[.bool true, .int .i64 b1, .string b2], .int .i64 n, .string s] w fun e w' => e = .returned (.bool true) ∧ Below w.heap.size w w' := by
  have hu51 := Tryd.underlying51
  go_enter Tryd.func8, Tryd.ntmps8
  go_upto_region 1 with (fail)
  obtain ⟨W, hW⟩ : ∃ W, W = ((w.alloc (.cells #[.bool false, .int .i64 a1, .string a2] 51)).alloc (.cells #[.bool true, .int .i64 b1, .string b2] 51)) := ⟨_, rfl⟩
  rw [← hW]
  have k4 : W.heap[w.heap.size]? = some (.cells #[.bool false, .int .i64 a1, .string a2] 51 (0, 0)) := by rw [hW]; exact (Val.old_alloc (by simp)).trans (heap_alloc_last w _)
  have k5 : W.heap[w.heap.size + 1]? = some (.cells #[.bool true, .int .i64 b1, .string b2] 51 (0, 0)) := by
    rw [hW]
    have h_ := heap_alloc_last (w.alloc (.cells #[.bool false, .int .i64 a1, .string a2] 51)) (.cells #[.bool true, .int .i64 b1, .string b2] 51)
    rw [show (w.alloc (.cells #[.bool false, .int .i64 a1, .string a2] 51)).heap.size = w.heap.size + 1 from by simp] at h_
    exact h_
  have HB0 : Aside0 (Below w.heap.size w W) := ⟨by rw [hW]; exact below_alloc (below_alloc (Below.refl _ _) _) _⟩
  clear hW
  have c4 : W.cell? ⟨w.heap.size, 2, none⟩ = some (.string a2) := (Val.cell_blk k4 2).trans rfl
  have c5 : W.cell? ⟨w.heap.size + 1, 2, none⟩ = some (.string b2) := (Val.cell_blk k5 2).trans rfl
  have f4 : W.frozen? ⟨w.heap.size, 2, none⟩ = false := by simp [World.frozen?, k4]
  have f5 : W.frozen? ⟨w.heap.size + 1, 2, none⟩ = false := by simp [World.frozen?, k5]
  go_region
  clear c4 c5 f4 f5 hca hcb hcs ema emb ems
  as_aux_lemma =>
    obtain ⟨W1, hW1⟩ : ∃ W1, W1 = ((W.setCell ⟨w.heap.size, 2, none⟩ (.string A)).setCell ⟨w.heap.size + 1, 2, none⟩ (.string B)).drew := ⟨_, rfl⟩
    rw [← hW1]
    have k4' : W1.heap[w.heap.size]? = some (.cells #[.bool false, .int .i64 a1, .string A] 51 (0, 0)) := by
      rw [hW1]
      exact (Val.set_far _ _ _ _ _ (by omega)).trans (Val.set_blk k4 2 _)
    have k5' : W1.heap[w.heap.size + 1]? = some (.cells #[.bool true, .int .i64 b1, .string B] 51 (0, 0)) := by
      rw [hW1]
      exact Val.set_blk ((Val.set_far _ _ _ _ _ (by omega)).trans k5) 2 _
    have HB1 : Aside0 (Below w.heap.size w W1) := ⟨by rw [hW1]; exact below_drew1 (((HB0.out).setCell (Nat.le_refl _) _).setCell (Nat.le_succ _) _)⟩
    clear hW1 k4 k5 HB0
    have HB0 := HB1
    clear HB1
    go_upto_region 2 with (fail)
    have hS : Aside0 (∀ w', Below W1.heap.size W1 w' → w'.cell? ⟨w.heap.size, 0, none⟩ = some (.bool false) ∧ w'.cell? ⟨w.heap.size, 1, none⟩ = some (.int .i64 a1) ∧ w'.cell? ⟨w.heap.size, 2, none⟩ = some (.string A) ∧ w'.cell? ⟨w.heap.size + 1, 0, none⟩ = some (.bool true) ∧ w'.cell? ⟨w.heap.size + 1, 1, none⟩ = some (.int .i64 b1) ∧ w'.cell? ⟨w.heap.size + 1, 2, none⟩ = some (.string B)) := ⟨fun w' hw => ⟨(Val.cell_blk ((hw.block _ (Val.lt_blk k4')).trans k4') 0).trans rfl, (Val.cell_blk ((hw.block _ (Val.lt_blk k4')).trans k4') 1).trans rfl, (Val.cell_blk ((hw.block _ (Val.lt_blk k4')).trans k4') 2).trans rfl, (Val.cell_blk ((hw.block _ (Val.lt_blk k5')).trans k5') 0).trans rfl, (Val.cell_blk ((hw.block _ (Val.lt_blk k5')).trans k5') 1).trans rfl, (Val.cell_blk ((hw.block _ (Val.lt_blk k5')).trans k5') 2).trans rfl⟩⟩
    clear k4' k5'
    generalize w.heap.size + 1 = g1 at hS ⊢
    generalize hg0 : w.heap.size = g0 at hS ⊢
    as_aux_lemma =>
      refine start_ (n := 6) (S := fun w' => w'.cell? ⟨g0, 0, none⟩ = some (.bool false) ∧ w'.cell? ⟨g0, 1, none⟩ = some (.int .i64 a1) ∧ w'.cell? ⟨g0, 2, none⟩ = some (.string A) ∧ w'.cell? ⟨g1, 0, none⟩ = some (.bool true) ∧ w'.cell? ⟨g1, 1, none⟩ = some (.int .i64 b1) ∧ w'.cell? ⟨g1, 2, none⟩ = some (.string B)) (ds := []) #[false, false, false, false, false, false] (by kernel_rfl) rfl rfl (hS.out _ (below_drew1 (Below.refl _ _))) (fun hHeld => ?_)
      have hb0 : Below W1.heap.size W1 W1.drew := below_drew1 (Below.refl _ _)
      generalize W1.drew = V0 at hb0 hHeld ⊢
      refine take_ (i := 0) (N := (some 33)) (v := ?_) (a' := ?_) #[true, false, false, false, false, false] rfl rfl (by kernel_rfl) (fun _ _ _ h => h) (Or.inl ⟨by rfl, ?_⟩) hHeld ?_ ?_
      rotate_left
      · rintro w' ⟨s0, s1, s2, s3, s4, s5⟩
        go_simp
        with_reducible rfl
      rotate_left
      · simp only [Act.put, List.setIfInBounds_toArray, List.set_cons_zero, List.set_cons_succ, i64_w, i32_w]
        rfl
      refine take_ (i := 2) (N := (some 35)) (v := ?_) (a' := ?_) #[true, false, true, false, false, false] rfl rfl (by kernel_rfl) (fun _ _ _ h => h) (Or.inl ⟨by rfl, ?_⟩) hHeld ?_ ?_
      rotate_left
      · rintro w' ⟨s0, s1, s2, s3, s4, s5⟩
        go_simp
        with_reducible rfl
      rotate_left
      · simp only [Act.put, List.setIfInBounds_toArray, List.set_cons_zero, List.set_cons_succ, i64_w, i32_w]
        rfl
      refine one_ (i := 1) (N := (some 34)) #[true, true, true, false, false, false] rfl rfl (by kernel_rfl) (by decide) (fun K hK => ?_)
      refine goes_ Tryd.func30 (by kernel_rfl) rfl #[.agg #[.bool false, .int .i64 a1, .string A]] (by rfl) rfl rfl (by (try simp only [List.map_toArray, List.map_cons, List.map_nil]); first | done | rfl) ?_
      refine (value_Right.calls false a1 A true _ RA.out).mono ?_
      rintro e V1 ⟨rfl, hbc⟩
      refine ⟨_, rfl, ?_⟩
      have hb1 : Below W1.heap.size W1 V1 := below_step hb0 hbc
      refine hK.out _ _ (hS.out _ hb1) (fun hHeld => ?_)
      clear hK K hbc
      refine norm_ (a' := ?_) ?_ ?_
      rotate_left
      · show Act.put _ (some 34) _ = _
        simp only [Act.put, List.setIfInBounds_toArray, List.set_cons_zero, List.set_cons_succ, i64_w, i32_w]
        rfl
      refine one_ (i := 3) (N := (some 36)) #[true, true, true, true, false, false] rfl rfl (by kernel_rfl) (by decide) (fun K hK => ?_)
      refine goes_ Tryd.func30 (by kernel_rfl) rfl #[.agg #[.bool true, .int .i64 b1, .string B]] (by rfl) rfl rfl (by (try simp only [List.map_toArray, List.map_cons, List.map_nil]); first | done | rfl) ?_
      refine (value_Right.calls true b1 B true _ RB.out).mono ?_
      rintro e V2 ⟨rfl, hbc⟩
      refine ⟨_, rfl, ?_⟩
      have hb2 : Below W1.heap.size W1 V2 := below_step hb1 hbc
      refine hK.out _ _ (hS.out _ hb2) (fun hHeld => ?_)
      clear hK K hbc
      refine norm_ (a' := ?_) ?_ ?_
      rotate_left
      · show Act.put _ (some 36) _ = _
        simp only [Act.put, List.setIfInBounds_toArray, List.set_cons_zero, List.set_cons_succ, i64_w, i32_w]
        rfl
      refine pure_ (i := 4) (N := (some 9)) (v := ?_) (a' := ?_) #[true, true, true, true, true, false] rfl rfl (by kernel_rfl) (fun _ _ _ h => h) (Or.inl ⟨by rfl, ?_⟩) ?_ ?_
      rotate_left
      · intro w'
        go_simp
        with_reducible rfl
      rotate_left
      · simp only [Act.put, List.setIfInBounds_toArray, List.set_cons_zero, List.set_cons_succ, i64_w, i32_w]
        rfl
      refine pure_ (i := 5) (N := (some 10)) (v := ?_) (a' := ?_) #[true, true, true, true, true, true] rfl rfl (by kernel_rfl) (fun _ _ _ h => h) (Or.inl ⟨by rfl, ?_⟩) ?_ ?_
      rotate_left
      · intro w'
        go_simp
        with_reducible rfl
      rotate_left
      · simp only [Act.put, List.setIfInBounds_toArray, List.set_cons_zero, List.set_cons_succ, i64_w, i32_w]
        rfl
      refine done_ (by kernel_rfl) ?_
      have HB := Aside0.mk hb2
      clear hb0 hb1 hb2 hHeld
      obtain ⟨r0, r1, r2, r3, r4, r5⟩ := hS.out _ HB.out
      as_aux_lemma =>
        have EN : ∀ w, (binOp .neq 51 (.agg #[.bool false, .int .i64 n, .string ⟨#[]⟩]) (.agg #[.bool false, .int .i64 n, .string ⟨#[]⟩])).run Tryd.prog w = .ok (.bool false) w := fun w => by rw [neq51]; simp [eqV]
        have ET : ∀ w, (binOp .neq 51 (.agg #[.bool true, .int .i64 0, .string S]) (.agg #[.bool true, .int .i64 0, .string S])).run Tryd.prog w = .ok (.bool false) w := fun w => by rw [neq51]; simp [eqV]
        go_upto_region 5 with (first | ((with_reducible refine gate_callee (f := 31) rfl ?_); refine goesL_ (some 39) rfl rfl Tryd.func31 (by kernel_rfl) rfl #[.agg #[.bool false, .int .i64 a1, .string A]] rfl (by (try simp only [List.map_toArray, List.map_cons, List.map_nil]); first | done | rfl) ?_; (with_reducible refine (broadsideref1_RightValue.calls false a1 A true _ RV.out).mono ?_); rintro e w9 ⟨rfl, hb⟩; refine ⟨_, rfl, ?_⟩; have n0_ := Aside0.mk (below_step HB.out hb); clear HB; have HB := n0_; clear n0_ hb r0 r1 r2 r3 r4 r5; obtain ⟨r0, r1, r2, r3, r4, r5⟩ := hS.out _ HB.out) | (with_reducible refine (broadsideref1_RightValue.calls false a1 A true _ RV.out).mono ?_; rintro e w9 ⟨rfl, hb⟩; have n0_ := Aside0.mk (below_step HB.out hb); clear HB; have HB := n0_; clear n0_ hb r0 r1 r2 r3 r4 r5; obtain ⟨r0, r1, r2, r3, r4, r5⟩ := hS.out _ HB.out) | ((with_reducible refine gate_callee (f := 27) rfl ?_); refine goesL_ (some 43) rfl rfl Tryd.func27 (by kernel_rfl) rfl #[.int .i64 n] rfl (by (try simp only [List.map_toArray, List.map_cons, List.map_nil]); first | done | rfl) ?_; (with_reducible refine (value_Number.calls n _ _ _ _ rfl).mono ?_); rintro e w9 ⟨rfl, hb⟩; refine ⟨_, rfl, ?_⟩; have n0_ := Aside0.mk (below_step HB.out hb); clear HB; have HB := n0_; clear n0_ hb r0 r1 r2 r3 r4 r5; obtain ⟨r0, r1, r2, r3, r4, r5⟩ := hS.out _ HB.out) | (with_reducible refine (value_Number.calls n _ _ _ _ rfl).mono ?_; rintro e w9 ⟨rfl, hb⟩; have n0_ := Aside0.mk (below_step HB.out hb); clear HB; have HB := n0_; clear n0_ hb r0 r1 r2 r3 r4 r5; obtain ⟨r0, r1, r2, r3, r4, r5⟩ := hS.out _ HB.out) | ((with_reducible refine gate_callee (f := 28) rfl ?_); refine goesL_ (some 50) rfl rfl Tryd.func28 (by kernel_rfl) rfl #[.string S] rfl (by (try simp only [List.map_toArray, List.map_cons, List.map_nil]); first | done | rfl) ?_; (with_reducible refine (value_Text.calls S _ _ _ _ rfl).mono ?_); rintro e w9 ⟨rfl, hb⟩; refine ⟨_, rfl, ?_⟩; have n0_ := Aside0.mk (below_step HB.out hb); clear HB; have HB := n0_; clear n0_ hb r0 r1 r2 r3 r4 r5; obtain ⟨r0, r1, r2, r3, r4, r5⟩ := hS.out _ HB.out) | (with_reducible refine (value_Text.calls S _ _ _ _ rfl).mono ?_; rintro e w9 ⟨rfl, hb⟩; have n0_ := Aside0.mk (below_step HB.out hb); clear HB; have HB := n0_; clear n0_ hb r0 r1 r2 r3 r4 r5; obtain ⟨r0, r1, r2, r3, r4, r5⟩ := hS.out _ HB.out) | ((with_reducible refine gate_callee (f := 7) rfl ?_); refine goesL_ (some 80) rfl rfl Tryd.func7 (by kernel_rfl) rfl #[] rfl (by (try simp only [List.map_toArray, List.map_cons, List.map_nil]); first | done | rfl) ?_; (with_reducible refine (runs_calls _ (Val.tb HTAB (below_step HB0.out HB.out))).mono ?_); rintro e w9 ⟨rfl, hb⟩; refine ⟨_, rfl, ?_⟩; have n0_ := Aside0.mk (below_step HB.out hb); clear HB; have HB := n0_; clear n0_ hb r0 r1 r2 r3 r4 r5; obtain ⟨r0, r1, r2, r3, r4, r5⟩ := hS.out _ HB.out) | (with_reducible refine (runs_calls _ (Val.tb HTAB (below_step HB0.out HB.out))).mono ?_; rintro e w9 ⟨rfl, hb⟩; have n0_ := Aside0.mk (below_step HB.out hb); clear HB; have HB := n0_; clear n0_ hb r0 r1 r2 r3 r4 r5; obtain ⟨r0, r1, r2, r3, r4, r5⟩ := hS.out _ HB.out))
        clear EN ET
        as_aux_lemma =>
          · skip
            go_upto_region 12 with (first | ((with_reducible refine gate_callee (f := 31) rfl ?_); refine goesL_ (some 39) rfl rfl Tryd.func31 (by kernel_rfl) rfl #[.agg #[.bool false, .int .i64 a1, .string A]] rfl (by (try simp only [List.map_toArray, List.map_cons, List.map_nil]); first | done | rfl) ?_; (with_reducible refine (broadsideref1_RightValue.calls false a1 A true _ RV.out).mono ?_); rintro e w9 ⟨rfl, hb⟩; refine ⟨_, rfl, ?_⟩; have n0_ := Aside0.mk (below_step HB.out hb); clear HB; have HB := n0_; clear n0_ hb r0 r1 r2 r3 r4 r5; obtain ⟨r0, r1, r2, r3, r4, r5⟩ := hS.out _ HB.out) | (with_reducible refine (broadsideref1_RightValue.calls false a1 A true _ RV.out).mono ?_; rintro e w9 ⟨rfl, hb⟩; have n0_ := Aside0.mk (below_step HB.out hb); clear HB; have HB := n0_; clear n0_ hb r0 r1 r2 r3 r4 r5; obtain ⟨r0, r1, r2, r3, r4, r5⟩ := hS.out _ HB.out) | ((with_reducible refine gate_callee (f := 27) rfl ?_); refine goesL_ (some 43) rfl rfl Tryd.func27 (by kernel_rfl) rfl #[.int .i64 n] rfl (by (try simp only [List.map_toArray, List.map_cons, List.map_nil]); first | done | rfl) ?_; (with_reducible refine (value_Number.calls n _ _ _ _ rfl).mono ?_); rintro e w9 ⟨rfl, hb⟩; refine ⟨_, rfl, ?_⟩; have n0_ := Aside0.mk (below_step HB.out hb); clear HB; have HB := n0_; clear n0_ hb r0 r1 r2 r3 r4 r5; obtain ⟨r0, r1, r2, r3, r4, r5⟩ := hS.out _ HB.out) | (with_reducible refine (value_Number.calls n _ _ _ _ rfl).mono ?_; rintro e w9 ⟨rfl, hb⟩; have n0_ := Aside0.mk (below_step HB.out hb); clear HB; have HB := n0_; clear n0_ hb r0 r1 r2 r3 r4 r5; obtain ⟨r0, r1, r2, r3, r4, r5⟩ := hS.out _ HB.out) | ((with_reducible refine gate_callee (f := 28) rfl ?_); refine goesL_ (some 50) rfl rfl Tryd.func28 (by kernel_rfl) rfl #[.string S] rfl (by (try simp only [List.map_toArray, List.map_cons, List.map_nil]); first | done | rfl) ?_; (with_reducible refine (value_Text.calls S _ _ _ _ rfl).mono ?_); rintro e w9 ⟨rfl, hb⟩; refine ⟨_, rfl, ?_⟩; have n0_ := Aside0.mk (below_step HB.out hb); clear HB; have HB := n0_; clear n0_ hb r0 r1 r2 r3 r4 r5; obtain ⟨r0, r1, r2, r3, r4, r5⟩ := hS.out _ HB.out) | (with_reducible refine (value_Text.calls S _ _ _ _ rfl).mono ?_; rintro e w9 ⟨rfl, hb⟩; have n0_ := Aside0.mk (below_step HB.out hb); clear HB; have HB := n0_; clear n0_ hb r0 r1 r2 r3 r4 r5; obtain ⟨r0, r1, r2, r3, r4, r5⟩ := hS.out _ HB.out) | ((with_reducible refine gate_callee (f := 7) rfl ?_); refine goesL_ (some 80) rfl rfl Tryd.func7 (by kernel_rfl) rfl #[] rfl (by (try simp only [List.map_toArray, List.map_cons, List.map_nil]); first | done | rfl) ?_; (with_reducible refine (runs_calls _ (Val.tb HTAB (below_step HB0.out HB.out))).mono ?_); rintro e w9 ⟨rfl, hb⟩; refine ⟨_, rfl, ?_⟩; have n0_ := Aside0.mk (below_step HB.out hb); clear HB; have HB := n0_; clear n0_ hb r0 r1 r2 r3 r4 r5; obtain ⟨r0, r1, r2, r3, r4, r5⟩ := hS.out _ HB.out) | (with_reducible refine (runs_calls _ (Val.tb HTAB (below_step HB0.out HB.out))).mono ?_; rintro e w9 ⟨rfl, hb⟩; have n0_ := Aside0.mk (below_step HB.out hb); clear HB; have HB := n0_; clear n0_ hb r0 r1 r2 r3 r4 r5; obtain ⟨r0, r1, r2, r3, r4, r5⟩ := hS.out _ HB.out))
            have LAB : Aside0 (value_Less.f false a1 A true b1 B = some (true)) := ⟨rfl⟩
            have EQ0 : ∀ w, (binOp .eql 51 (.agg #[.bool false, .int .i64 a1, .string A]) (.agg #[.bool true, .int .i64 b1, .string B])).run Tryd.prog w = .ok (.bool E) w := fun w => by rw [eq51, EQ.out]
            have ES0 := ES.out
            have EU0 := EU.out
            as_aux_lemma =>
              obtain ⟨Wc, hWc⟩ : ∃ Wc, Wc = w9 := ⟨_, rfl⟩
              subst hWc
              refine start_ (n := 25) (S := fun w' => w'.cell? ⟨g0, 0, none⟩ = some (.bool false) ∧ w'.cell? ⟨g0, 1, none⟩ = some (.int .i64 a1) ∧ w'.cell? ⟨g0, 2, none⟩ = some (.string A) ∧ w'.cell? ⟨g1, 0, none⟩ = some (.bool true) ∧ w'.cell? ⟨g1, 1, none⟩ = some (.int .i64 b1) ∧ w'.cell? ⟨g1, 2, none⟩ = some (.string B)) (ds := []) #[false, false, false, false, false, false, false, false, false, false, false, false, false, false, false, false, false, false, false, false, false, false, false, false, false] (by kernel_rfl) rfl rfl (hS.out _ (below_drew1 HB.out)) (fun hHeld => ?_)
              have hb0 : Below W1.heap.size W1 Wc.drew := below_drew1 HB.out
              generalize Wc.drew = V0 at hb0 hHeld ⊢
              refine take_ (i := 0) (N := (some 81)) (v := ?_) (a' := ?_) #[true, false, false, false, false, false, false, false, false, false, false, false, false, false, false, false, false, false, false, false, false, false, false, false, false] rfl rfl (by kernel_rfl) (fun _ _ _ h => h) (Or.inl ⟨by rfl, ?_⟩) hHeld ?_ ?_
              rotate_left
              · rintro w' ⟨s0, s1, s2, s3, s4, s5⟩
                go_simp
                with_reducible rfl
              rotate_left
              · simp only [Act.put, List.setIfInBounds_toArray, List.set_cons_zero, List.set_cons_succ, i64_w, i32_w]
                rfl
              refine take_ (i := 1) (N := (some 82)) (v := ?_) (a' := ?_) #[true, true, false, false, false, false, false, false, false, false, false, false, false, false, false, false, false, false, false, false, false, false, false, false, false] rfl rfl (by kernel_rfl) (fun _ _ _ h => h) (Or.inl ⟨by rfl, ?_⟩) hHeld ?_ ?_
              rotate_left
              · rintro w' ⟨s0, s1, s2, s3, s4, s5⟩
                go_simp
                with_reducible rfl
              rotate_left
              · simp only [Act.put, List.setIfInBounds_toArray, List.set_cons_zero, List.set_cons_succ, i64_w, i32_w]
                rfl
              refine pure_ (i := 3) (N := (some 84)) (v := ?_) (a' := ?_) #[true, true, false, true, false, false, false, false, false, false, false, false, false, false, false, false, false, false, false, false, false, false, false, false, false] rfl rfl (by kernel_rfl) (fun _ _ _ h => h) (Or.inl ⟨by rfl, ?_⟩) ?_ ?_
              rotate_left
              · intro w'
                go_simp
                with_reducible rfl
              rotate_left
              · simp only [Act.put, List.setIfInBounds_toArray, List.set_cons_zero, List.set_cons_succ, i64_w, i32_w]
                rfl
              refine one_ (i := 2) (N := (some 83)) #[true, true, true, true, false, false, false, false, false, false, false, false, false, false, false, false, false, false, false, false, false, false, false, false, false] rfl rfl (by kernel_rfl) (by decide) (fun K hK => ?_)
              refine goes_ Tryd.func26 (by kernel_rfl) rfl #[.agg #[.bool false, .int .i64 a1, .string A], .agg #[.bool true, .int .i64 b1, .string B]] (by rfl) rfl rfl (by (try simp only [List.map_toArray, List.map_cons, List.map_nil]); first | done | rfl) ?_
              refine (value_Less.calls false a1 A true b1 B true _ LAB.out).mono ?_
              rintro e V1 ⟨rfl, hbc⟩
              refine ⟨_, rfl, ?_⟩
              have hb1 : Below W1.heap.size W1 V1 := below_step hb0 hbc
              refine hK.out _ _ (hS.out _ hb1) (fun hHeld => ?_)
              clear hK K hbc
              refine norm_ (a' := ?_) ?_ ?_
              rotate_left
              · show Act.put _ (some 83) _ = _
                simp only [Act.put, List.setIfInBounds_toArray, List.set_cons_zero, List.set_cons_succ, i64_w, i32_w]
                rfl
              refine pure_ (i := 4) (N := (some 85)) (v := ?_) (a' := ?_) #[true, true, true, true, true, false, false, false, false, false, false, false, false, false, false, false, false, false, false, false, false, false, false, false, false] rfl rfl (by kernel_rfl) (fun _ _ _ h => h) (Or.inl ⟨by rfl, ?_⟩) ?_ ?_
              rotate_left
              · intro w'
                go_simp
                with_reducible rfl
              rotate_left
              · simp only [Act.put, List.setIfInBounds_toArray, List.set_cons_zero, List.set_cons_succ, i64_w, i32_w]
                rfl
              refine pure_ (i := 5) (N := (some 86)) (v := ?_) (a' := ?_) #[true, true, true, true, true, true, false, false, false, false, false, false, false, false, false, false, false, false, false, false, false, false, false, false, false] rfl rfl (by kernel_rfl) (fun _ _ _ h => h) (Or.inl ⟨by rfl, ?_⟩) ?_ ?_
              rotate_left
              · intro w'
                go_simp
                with_reducible rfl
              rotate_left
              · simp only [Act.put, List.setIfInBounds_toArray, List.set_cons_zero, List.set_cons_succ, i64_w, i32_w]
                rfl
              refine take_ (i := 6) (N := (some 87)) (v := ?_) (a' := ?_) #[true, true, true, true, true, true, true, false, false, false, false, false, false, false, false, false, false, false, false, false, false, false, false, false, false] rfl rfl (by kernel_rfl) (fun _ _ _ h => h) (Or.inl ⟨by rfl, ?_⟩) hHeld ?_ ?_
              rotate_left
              · rintro w' ⟨s0, s1, s2, s3, s4, s5⟩
                go_simp
                with_reducible rfl
              rotate_left
              · simp only [Act.put, List.setIfInBounds_toArray, List.set_cons_zero, List.set_cons_succ, i64_w, i32_w]
                rfl
              refine take_ (i := 8) (N := (some 89)) (v := ?_) (a' := ?_) #[true, true, true, true, true, true, true, false, true, false, false, false, false, false, false, false, false, false, false, false, false, false, false, false, false] rfl rfl (by kernel_rfl) (fun _ _ _ h => h) (Or.inl ⟨by rfl, ?_⟩) hHeld ?_ ?_
              rotate_left
              · rintro w' ⟨s0, s1, s2, s3, s4, s5⟩
                go_simp
                with_reducible rfl
              rotate_left
              · simp only [Act.put, List.setIfInBounds_toArray, List.set_cons_zero, List.set_cons_succ, i64_w, i32_w]
                rfl
              refine take_ (i := 11) (N := (some 92)) (v := ?_) (a' := ?_) #[true, true, true, true, true, true, true, false, true, false, false, true, false, false, false, false, false, false, false, false, false, false, false, false, false] rfl rfl (by kernel_rfl) (fun _ _ _ h => h) (Or.inl ⟨by rfl, ?_⟩) hHeld ?_ ?_
              rotate_left
              · rintro w' ⟨s0, s1, s2, s3, s4, s5⟩
                go_simp
                with_reducible rfl
              rotate_left
              · simp only [Act.put, List.setIfInBounds_toArray, List.set_cons_zero, List.set_cons_succ, i64_w, i32_w]
                rfl
              refine take_ (i := 12) (N := (some 93)) (v := ?_) (a' := ?_) #[true, true, true, true, true, true, true, false, true, false, false, true, true, false, false, false, false, false, false, false, false, false, false, false, false] rfl rfl (by kernel_rfl) (fun _ _ _ h => h) (Or.inl ⟨by rfl, ?_⟩) hHeld ?_ ?_
              rotate_left
              · rintro w' ⟨s0, s1, s2, s3, s4, s5⟩
                go_simp
                with_reducible rfl
              rotate_left
              · simp only [Act.put, List.setIfInBounds_toArray, List.set_cons_zero, List.set_cons_succ, i64_w, i32_w]
                rfl
              refine pure_ (i := 13) (N := (some 94)) (v := ?_) (a' := ?_) #[true, true, true, true, true, true, true, false, true, false, false, true, true, true, false, false, false, false, false, false, false, false, false, false, false] rfl rfl (by kernel_rfl) (fun _ _ _ h => h) (Or.inl ⟨by rfl, ?_⟩) ?_ ?_
              rotate_left
              · intro w'
                go_simp
                with_reducible rfl
              rotate_left
              · simp only [Act.put, List.setIfInBounds_toArray, List.set_cons_zero, List.set_cons_succ, i64_w, i32_w]
                rfl
              refine one_ (i := 7) (N := (some 88)) #[true, true, true, true, true, true, true, true, true, false, false, true, true, true, false, false, false, false, false, false, false, false, false, false, false] rfl rfl (by kernel_rfl) (by decide) (fun K hK => ?_)
              refine goes_ Tryd.func29 (by kernel_rfl) rfl #[.agg #[.bool false, .int .i64 a1, .string A]] (by rfl) rfl rfl (by (try simp only [List.map_toArray, List.map_cons, List.map_nil]); first | done | rfl) ?_
              refine (value_Say.calls false a1 A u _ (Val.tb HTAB (below_step HB0.out hb1)) SA.out).mono ?_
              rintro e V2 ⟨rfl, hbc⟩
              refine ⟨_, rfl, ?_⟩
              have hb2 : Below W1.heap.size W1 V2 := below_step hb1 hbc
              refine hK.out _ _ (hS.out _ hb2) (fun hHeld => ?_)
              clear hK K hbc
              refine norm_ (a' := ?_) ?_ ?_
              rotate_left
              · show Act.put _ (some 88) _ = _
                simp only [Act.put, List.setIfInBounds_toArray, List.set_cons_zero, List.set_cons_succ, i64_w, i32_w]
                rfl
              refine one_ (i := 9) (N := (some 90)) #[true, true, true, true, true, true, true, true, true, true, false, true, true, true, false, false, false, false, false, false, false, false, false, false, false] rfl rfl (by kernel_rfl) (by decide) (fun K hK => ?_)
              refine goes_ Tryd.func29 (by kernel_rfl) rfl #[.agg #[.bool true, .int .i64 b1, .string B]] (by rfl) rfl rfl (by (try simp only [List.map_toArray, List.map_cons, List.map_nil]); first | done | rfl) ?_
              refine (value_Say.calls true b1 B v _ (Val.tb HTAB (below_step HB0.out hb2)) SB.out).mono ?_
              rintro e V3 ⟨rfl, hbc⟩
              refine ⟨_, rfl, ?_⟩
              have hb3 : Below W1.heap.size W1 V3 := below_step hb2 hbc
              refine hK.out _ _ (hS.out _ hb3) (fun hHeld => ?_)
              clear hK K hbc
              refine norm_ (a' := ?_) ?_ ?_
              rotate_left
              · show Act.put _ (some 90) _ = _
                simp only [Act.put, List.setIfInBounds_toArray, List.set_cons_zero, List.set_cons_succ, i64_w, i32_w]
                rfl
              refine pure_ (i := 10) (N := (some 91)) (v := ?_) (a' := ?_) #[true, true, true, true, true, true, true, true, true, true, true, true, true, true, false, false, false, false, false, false, false, false, false, false, false] rfl rfl (by kernel_rfl) (fun _ _ _ h => h) (Or.inl ⟨by rfl, ?_⟩) ?_ ?_
              rotate_left
              · intro w'
                go_simp
                with_reducible rfl
              rotate_left
              · simp only [Act.put, List.setIfInBounds_toArray, List.set_cons_zero, List.set_cons_succ, i64_w, i32_w]
                rfl
              refine pure_ (i := 14) (N := (some 95)) (v := ?_) (a' := ?_) #[true, true, true, true, true, true, true, true, true, true, true, true, true, true, true, false, false, false, false, false, false, false, false, false, false] rfl rfl (by kernel_rfl) (fun _ _ _ h => h) (Or.inl ⟨by rfl, ?_⟩) ?_ ?_
              rotate_left
              · intro w'
                go_simp
                with_reducible rfl
              rotate_left
              · simp only [Act.put, List.setIfInBounds_toArray, List.set_cons_zero, List.set_cons_succ, i64_w, i32_w]
                rfl
              refine pure_ (i := 15) (N := (some 96)) (v := ?_) (a' := ?_) #[true, true, true, true, true, true, true, true, true, true, true, true, true, true, true, true, false, false, false, false, false, false, false, false, false] rfl rfl (by kernel_rfl) (fun _ _ _ h => h) (Or.inl ⟨by rfl, ?_⟩) ?_ ?_
              rotate_left
              · intro w'
                go_simp
                with_reducible rfl
              rotate_left
              · simp only [Act.put, List.setIfInBounds_toArray, List.set_cons_zero, List.set_cons_succ, i64_w, i32_w]
                rfl
              refine pure_ (i := 16) (N := (some 97)) (v := ?_) (a' := ?_) #[true, true, true, true, true, true, true, true, true, true, true, true, true, true, true, true, true, false, false, false, false, false, false, false, false] rfl rfl (by kernel_rfl) (fun _ _ _ h => h) (Or.inl ⟨by rfl, ?_⟩) ?_ ?_
              rotate_left
              · intro w'
                go_simp
                with_reducible rfl
              rotate_left
              · simp only [Act.put, List.setIfInBounds_toArray, List.set_cons_zero, List.set_cons_succ, i64_w, i32_w]
                rfl
              refine take_ (i := 17) (N := (some 98)) (v := ?_) (a' := ?_) #[true, true, true, true, true, true, true, true, true, true, true, true, true, true, true, true, true, true, false, false, false, false, false, false, false] rfl rfl (by kernel_rfl) (fun _ _ _ h => h) (Or.inl ⟨by rfl, ?_⟩) hHeld ?_ ?_
              rotate_left
              · rintro w' ⟨s0, s1, s2, s3, s4, s5⟩
                go_simp
                with_reducible rfl
              rotate_left
              · simp only [Act.put, List.setIfInBounds_toArray, List.set_cons_zero, List.set_cons_succ, i64_w, i32_w]
                rfl
              refine one_ (i := 18) (N := (some 99)) #[true, true, true, true, true, true, true, true, true, true, true, true, true, true, true, true, true, true, true, false, false, false, false, false, false] rfl rfl (by kernel_rfl) (by decide) (fun K hK => ?_)
              refine goes_ Tryd.func29 (by kernel_rfl) rfl #[.agg #[.bool false, .int .i64 a1, .string A]] (by rfl) rfl rfl (by (try simp only [List.map_toArray, List.map_cons, List.map_nil]); first | done | rfl) ?_
              refine (value_Say.calls false a1 A u _ (Val.tb HTAB (below_step HB0.out hb3)) SA.out).mono ?_
              rintro e V4 ⟨rfl, hbc⟩
              refine ⟨_, rfl, ?_⟩
              have hb4 : Below W1.heap.size W1 V4 := below_step hb3 hbc
              refine hK.out _ _ (hS.out _ hb4) (fun hHeld => ?_)
              clear hK K hbc
              refine norm_ (a' := ?_) ?_ ?_
              rotate_left
              · show Act.put _ (some 99) _ = _
                simp only [Act.put, List.setIfInBounds_toArray, List.set_cons_zero, List.set_cons_succ, i64_w, i32_w]
                rfl
              refine pure_ (i := 19) (N := (some 100)) (v := ?_) (a' := ?_) #[true, true, true, true, true, true, true, true, true, true, true, true, true, true, true, true, true, true, true, true, false, false, false, false, false] rfl rfl (by kernel_rfl) (fun _ _ _ h => h) (Or.inl ⟨by rfl, ?_⟩) ?_ ?_
              rotate_left
              · intro w'
                go_simp
                with_reducible rfl
              rotate_left
              · simp only [Act.put, List.setIfInBounds_toArray, List.set_cons_zero, List.set_cons_succ, i64_w, i32_w]
                rfl
              refine pure_ (i := 20) (N := (some 101)) (v := ?_) (a' := ?_) #[true, true, true, true, true, true, true, true, true, true, true, true, true, true, true, true, true, true, true, true, true, false, false, false, false] rfl rfl (by kernel_rfl) (fun _ _ _ h => h) (Or.inl ⟨by rfl, ?_⟩) ?_ ?_
              rotate_left
              · intro w'
                go_simp
                with_reducible rfl
              rotate_left
              · simp only [Act.put, List.setIfInBounds_toArray, List.set_cons_zero, List.set_cons_succ, i64_w, i32_w]
                rfl
              refine pure_ (i := 21) (N := (some 102)) (v := ?_) (a' := ?_) #[true, true, true, true, true, true, true, true, true, true, true, true, true, true, true, true, true, true, true, true, true, true, false, false, false] rfl rfl (by kernel_rfl) (fun _ _ _ h => h) (Or.inl ⟨by rfl, ?_⟩) ?_ ?_
              rotate_left
              · intro w'
                go_simp
                with_reducible rfl
              rotate_left
              · simp only [Act.put, List.setIfInBounds_toArray, List.set_cons_zero, List.set_cons_succ, i64_w, i32_w]
                rfl
              refine one_ (i := 22) (N := (some 103)) #[true, true, true, true, true, true, true, true, true, true, true, true, true, true, true, true, true, true, true, true, true, true, true, false, false] rfl rfl (by kernel_rfl) (by decide) (fun K hK => ?_)
              refine goes_ Tryd.func7 (by kernel_rfl) rfl #[] (by rfl) rfl rfl (by (try simp only [List.map_toArray, List.map_cons, List.map_nil]); first | done | rfl) ?_
              refine (runs_calls _ (Val.tb HTAB (below_step HB0.out hb4))).mono ?_
              rintro e V5 ⟨rfl, hbc⟩
              refine ⟨_, rfl, ?_⟩
              have hb5 : Below W1.heap.size W1 V5 := below_step hb4 hbc
              refine hK.out _ _ (hS.out _ hb5) (fun hHeld => ?_)
              clear hK K hbc
              refine norm_ (a' := ?_) ?_ ?_
              rotate_left
              · show Act.put _ (some 103) _ = _
                simp only [Act.put, List.setIfInBounds_toArray, List.set_cons_zero, List.set_cons_succ, i64_w, i32_w]
                rfl
              refine pure_ (i := 23) (N := (some 104)) (v := ?_) (a' := ?_) #[true, true, true, true, true, true, true, true, true, true, true, true, true, true, true, true, true, true, true, true, true, true, true, true, false] rfl rfl (by kernel_rfl) (fun _ _ _ h => h) (Or.inl ⟨by rfl, ?_⟩) ?_ ?_
              rotate_left
              · intro w'
                go_simp
                with_reducible rfl
              rotate_left
              · simp only [Act.put, List.setIfInBounds_toArray, List.set_cons_zero, List.set_cons_succ, i64_w, i32_w]
                rfl
              refine pure_ (i := 24) (N := (some 8)) (v := ?_) (a' := ?_) #[true, true, true, true, true, true, true, true, true, true, true, true, true, true, true, true, true, true, true, true, true, true, true, true, true] rfl rfl (by kernel_rfl) (fun _ _ _ h => h) (Or.inl ⟨by rfl, ?_⟩) ?_ ?_
              rotate_left
              · intro w'
                go_simp
                with_reducible rfl
              rotate_left
              · simp only [Act.put, List.setIfInBounds_toArray, List.set_cons_zero, List.set_cons_succ, i64_w, i32_w]
                rfl
              refine done_ (by kernel_rfl) ?_
              have HF := Aside0.mk (below_step HB0.out hb5)
              go_wp2
              go_ret
              exact ⟨rfl, HF.out⟩
set_option maxRecDepth 1000000 in
set_option maxHeartbeats 3200000 in
theorem tells_tt_10 (a1 : Int) (a2 : ByteArray) (b1 : Int) (b2 : ByteArray) (n : Int) (s : ByteArray) (w : World) (HTAB : Aside0 (Val.Tab w)) (ma mb ms : Int) (A B S : ByteArray)
    (ema : (if 15 < (a2.size : Int) then 15 else (a2.size : Int)) = ma) (emb : (if 15 < (b2.size : Int) then 15 else (b2.size : Int)) = mb) (ems : (if 15 < (s.size : Int) then 15 else (s.size : Int)) = ms)
    (hca : ∀ w, (Instr.slice 9 (.string a2) none (some (.int .i64 ma)) none).run Tryd.prog w = .ok (.string A) w) (hcb : ∀ w, (Instr.slice 9 (.string b2) none (some (.int .i64 mb)) none).run Tryd.prog w = .ok (.string B) w) (hcs : ∀ w, (Instr.slice 9 (.string s) none (some (.int .i64 ms)) none).run Tryd.prog w = .ok (.string S) w)
    (RA : Aside0 (value_Right.f true a1 A = some true)) (RB : Aside0 (value_Right.f false b1 B = some true)) (RV : Aside0 (broadsideref1_RightValue.f true a1 A = some true)) (u v : ByteArray) (E : Bool) (SA : Aside0 (value_Say.f true a1 A = some u)) (SB : Aside0 (value_Say.f false b1 B = some v)) (EQ : Aside0 (eqV true a1 A false b1 B = E)) (ES : Aside0 ((u.toList == v.toList) = E)) (EU : Aside0 ((u.toList == ([] : List UInt8)) = false)) :
    Calls Tryd.prog 8 #[.agg #[.bool true, .int .i64 a1, .string a2], .agg #[.bool false, .int .i64 b1, .string b2], .int .i64 n, .string s] w fun e w' => e = .returned (.bool true) ∧ Below w.heap.size w w' := by
  have hu51 := Tryd.underlying51
  go_enter Tryd.func8, Tryd.ntmps8
  go_upto_region 1 with (fail)
  obtain ⟨W, hW⟩ : ∃ W, W = ((w.alloc (.cells #[.bool true, .int .i64 a1, .string a2] 51)).alloc (.cells #[.bool false, .int .i64 b1, .string b2] 51)) := ⟨_, rfl⟩
  rw [← hW]
  have k4 : W.heap[w.heap.size]? = some (.cells #[.bool true, .int .i64 a1, .string a2] 51 (0, 0)) := by rw [hW]; exact (Val.old_alloc (by simp)).trans (heap_alloc_last w _)
  have k5 : W.heap[w.heap.size + 1]? = some (.cells #[.bool false, .int .i64 b1, .string b2] 51 (0, 0)) := by
    rw [hW]
    have h_ := heap_alloc_last (w.alloc (.cells #[.bool true, .int .i64 a1, .string a2] 51)) (.cells #[.bool false, .int .i64 b1, .string b2] 51)
    rw [show (w.alloc (.cells #[.bool true, .int .i64 a1, .string a2] 51)).heap.size = w.heap.size + 1 from by simp] at h_
    exact h_
  have HB0 : Aside0 (Below w.heap.size w W) := ⟨by rw [hW]; exact below_alloc (below_alloc (Below.refl _ _) _) _⟩
  clear hW
  have c4 : W.cell? ⟨w.heap.size, 2, none⟩ = some (.string a2) := (Val.cell_blk k4 2).trans rfl
  have c5 : W.cell? ⟨w.heap.size + 1, 2, none⟩ = some (.string b2) := (Val.cell_blk k5 2).trans rfl
  have f4 : W.frozen? ⟨w.heap.size, 2, none⟩ = false := by simp [World.frozen?, k4]
  have f5 : W.frozen? ⟨w.heap.size + 1, 2, none⟩ = false := by simp [World.frozen?, k5]
  go_region
  clear c4 c5 f4 f5 hca hcb hcs ema emb ems
  as_aux_lemma =>
    obtain ⟨W1, hW1⟩ : ∃ W1, W1 = ((W.setCell ⟨w.heap.size, 2, none⟩ (.string A)).setCell ⟨w.heap.size + 1, 2, none⟩ (.string B)).drew := ⟨_, rfl⟩
    rw [← hW1]
    have k4' : W1.heap[w.heap.size]? = some (.cells #[.bool true, .int .i64 a1, .string A] 51 (0, 0)) := by
      rw [hW1]
      exact (Val.set_far _ _ _ _ _ (by omega)).trans (Val.set_blk k4 2 _)
    have k5' : W1.heap[w.heap.size + 1]? = some (.cells #[.bool false, .int .i64 b1, .string B] 51 (0, 0)) := by
      rw [hW1]
      exact Val.set_blk ((Val.set_far _ _ _ _ _ (by omega)).trans k5) 2 _
    have HB1 : Aside0 (Below w.heap.size w W1) := ⟨by rw [hW1]; exact below_drew1 (((HB0.out).setCell (Nat.le_refl _) _).setCell (Nat.le_succ _) _)⟩
    clear hW1 k4 k5 HB0
    have HB0 := HB1
    clear HB1
    go_upto_region 2 with (fail)
    have hS : Aside0 (∀ w', Below W1.heap.size W1 w' → w'.cell? ⟨w.heap.size, 0, none⟩ = some (.bool true) ∧ w'.cell? ⟨w.heap.size, 1, none⟩ = some (.int .i64 a1) ∧ w'.cell? ⟨w.heap.size, 2, none⟩ = some (.string A) ∧ w'.cell? ⟨w.heap.size + 1, 0, none⟩ = some (.bool false) ∧ w'.cell? ⟨w.heap.size + 1, 1, none⟩ = some (.int .i64 b1) ∧ w'.cell? ⟨w.heap.size + 1, 2, none⟩ = some (.string B)) := ⟨fun w' hw => ⟨(Val.cell_blk ((hw.block _ (Val.lt_blk k4')).trans k4') 0).trans rfl, (Val.cell_blk ((hw.block _ (Val.lt_blk k4')).trans k4') 1).trans rfl, (Val.cell_blk ((hw.block _ (Val.lt_blk k4')).trans k4') 2).trans rfl, (Val.cell_blk ((hw.block _ (Val.lt_blk k5')).trans k5') 0).trans rfl, (Val.cell_blk ((hw.block _ (Val.lt_blk k5')).trans k5') 1).trans rfl, (Val.cell_blk ((hw.block _ (Val.lt_blk k5')).trans k5') 2).trans rfl⟩⟩
    clear k4' k5'
    generalize w.heap.size + 1 = g1 at hS ⊢
    generalize hg0 : w.heap.size = g0 at hS ⊢
    as_aux_lemma =>
      refine start_ (n := 6) (S := fun w' => w'.cell? ⟨g0, 0, none⟩ = some (.bool true) ∧ w'.cell? ⟨g0, 1, none⟩ = some (.int .i64 a1) ∧ w'.cell? ⟨g0, 2, none⟩ = some (.string A) ∧ w'.cell? ⟨g1, 0, none⟩ = some (.bool false) ∧ w'.cell? ⟨g1, 1, none⟩ = some (.int .i64 b1) ∧ w'.cell? ⟨g1, 2, none⟩ = some (.string B)) (ds := []) #[false, false, false, false, false, false] (by kernel_rfl) rfl rfl (hS.out _ (below_drew1 (Below.refl _ _))) (fun hHeld => ?_)
      have hb0 : Below W1.heap.size W1 W1.drew := below_drew1 (Below.refl _ _)
      generalize W1.drew = V0 at hb0 hHeld ⊢
      refine take_ (i := 0) (N := (some 33)) (v := ?_) (a' := ?_) #[true, false, false, false, false, false] rfl rfl (by kernel_rfl) (fun _ _ _ h => h) (Or.inl ⟨by rfl, ?_⟩) hHeld ?_ ?_
      rotate_left
      · rintro w' ⟨s0, s1, s2, s3, s4, s5⟩
        go_simp
        with_reducible rfl
      rotate_left
      · simp only [Act.put, List.setIfInBounds_toArray, List.set_cons_zero, List.set_cons_succ, i64_w, i32_w]
        rfl
      refine take_ (i := 2) (N := (some 35)) (v := ?_) (a' := ?_) #[true, false, true, false, false, false] rfl rfl (by kernel_rfl) (fun _ _ _ h => h) (Or.inl ⟨by rfl, ?_⟩) hHeld ?_ ?_
      rotate_left
      · rintro w' ⟨s0, s1, s2, s3, s4, s5⟩
        go_simp
        with_reducible rfl
      rotate_left
      · simp only [Act.put, List.setIfInBounds_toArray, List.set_cons_zero, List.set_cons_succ, i64_w, i32_w]
        rfl
      refine one_ (i := 1) (N := (some 34)) #[true, true, true, false, false, false] rfl rfl (by kernel_rfl) (by decide) (fun K hK => ?_)
      refine goes_ Tryd.func30 (by kernel_rfl) rfl #[.agg #[.bool true, .int .i64 a1, .string A]] (by rfl) rfl rfl (by (try simp only [List.map_toArray, List.map_cons, List.map_nil]); first | done | rfl) ?_
      refine (value_Right.calls true a1 A true _ RA.out).mono ?_
      rintro e V1 ⟨rfl, hbc⟩
      refine ⟨_, rfl, ?_⟩
      have hb1 : Below W1.heap.size W1 V1 := below_step hb0 hbc
      refine hK.out _ _ (hS.out _ hb1) (fun hHeld => ?_)
      clear hK K hbc
      refine norm_ (a' := ?_) ?_ ?_
      rotate_left
      · show Act.put _ (some 34) _ = _
        simp only [Act.put, List.setIfInBounds_toArray, List.set_cons_zero, List.set_cons_succ, i64_w, i32_w]
        rfl
      refine one_ (i := 3) (N := (some 36)) #[true, true, true, true, false, false] rfl rfl (by kernel_rfl) (by decide) (fun K hK => ?_)
      refine goes_ Tryd.func30 (by kernel_rfl) rfl #[.agg #[.bool false, .int .i64 b1, .string B]] (by rfl) rfl rfl (by (try simp only [List.map_toArray, List.map_cons, List.map_nil]); first | done | rfl) ?_
      refine (value_Right.calls false b1 B true _ RB.out).mono ?_
      rintro e V2 ⟨rfl, hbc⟩
      refine ⟨_, rfl, ?_⟩
      have hb2 : Below W1.heap.size W1 V2 := below_step hb1 hbc
      refine hK.out _ _ (hS.out _ hb2) (fun hHeld => ?_)
      clear hK K hbc
      refine norm_ (a' := ?_) ?_ ?_
      rotate_left
      · show Act.put _ (some 36) _ = _
        simp only [Act.put, List.setIfInBounds_toArray, List.set_cons_zero, List.set_cons_succ, i64_w, i32_w]
        rfl
      refine pure_ (i := 4) (N := (some 9)) (v := ?_) (a' := ?_) #[true, true, true, true, true, false] rfl rfl (by kernel_rfl) (fun _ _ _ h => h) (Or.inl ⟨by rfl, ?_⟩) ?_ ?_
      rotate_left
      · intro w'
        go_simp
        with_reducible rfl
      rotate_left
      · simp only [Act.put, List.setIfInBounds_toArray, List.set_cons_zero, List.set_cons_succ, i64_w, i32_w]
        rfl
      refine pure_ (i := 5) (N := (some 10)) (v := ?_) (a' := ?_) #[true, true, true, true, true, true] rfl rfl (by kernel_rfl) (fun _ _ _ h => h) (Or.inl ⟨by rfl, ?_⟩) ?_ ?_
      rotate_left
      · intro w'
        go_simp
        with_reducible rfl
      rotate_left
      · simp only [Act.put, List.setIfInBounds_toArray, List.set_cons_zero, List.set_cons_succ, i64_w, i32_w]
        rfl
      refine done_ (by kernel_rfl) ?_
      have HB := Aside0.mk hb2
      clear hb0 hb1 hb2 hHeld
      obtain ⟨r0, r1, r2, r3, r4, r5⟩ := hS.out _ HB.out
      as_aux_lemma =>
        have EN : ∀ w, (binOp .neq 51 (.agg #[.bool false, .int .i64 n, .string ⟨#[]⟩]) (.agg #[.bool false, .int .i64 n, .string ⟨#[]⟩])).run Tryd.prog w = .ok (.bool false) w := fun w => by rw [neq51]; simp [eqV]
        have ET : ∀ w, (binOp .neq 51 (.agg #[.bool true, .int .i64 0, .string S]) (.agg #[.bool true, .int .i64 0, .string S])).run Tryd.prog w = .ok (.bool false) w := fun w => by rw [neq51]; simp [eqV]
        go_upto_region 5 with (first | ((with_reducible refine gate_callee (f := 31) rfl ?_); refine goesL_ (some 39) rfl rfl Tryd.func31 (by kernel_rfl) rfl #[.agg #[.bool true, .int .i64 a1, .string A]] rfl (by (try simp only [List.map_toArray, List.map_cons, List.map_nil]); first | done | rfl) ?_; (with_reducible refine (broadsideref1_RightValue.calls true a1 A true _ RV.out).mono ?_); rintro e w9 ⟨rfl, hb⟩; refine ⟨_, rfl, ?_⟩; have n0_ := Aside0.mk (below_step HB.out hb); clear HB; have HB := n0_; clear n0_ hb r0 r1 r2 r3 r4 r5; obtain ⟨r0, r1, r2, r3, r4, r5⟩ := hS.out _ HB.out) | (with_reducible refine (broadsideref1_RightValue.calls true a1 A true _ RV.out).mono ?_; rintro e w9 ⟨rfl, hb⟩; have n0_ := Aside0.mk (below_step HB.out hb); clear HB; have HB := n0_; clear n0_ hb r0 r1 r2 r3 r4 r5; obtain ⟨r0, r1, r2, r3, r4, r5⟩ := hS.out _ HB.out) | ((with_reducible refine gate_callee (f := 27) rfl ?_); refine goesL_ (some 43) rfl rfl Tryd.func27 (by kernel_rfl) rfl #[.int .i64 n] rfl (by (try simp only [List.map_toArray, List.map_cons, List.map_nil]); first | done | rfl) ?_; (with_reducible refine (value_Number.calls n _ _ _ _ rfl).mono ?_); rintro e w9 ⟨rfl, hb⟩; refine ⟨_, rfl, ?_⟩; have n0_ := Aside0.mk (below_step HB.out hb); clear HB; have HB := n0_; clear n0_ hb r0 r1 r2 r3 r4 r5; obtain ⟨r0, r1, r2, r3, r4, r5⟩ := hS.out _ HB.out) | (with_reducible refine (value_Number.calls n _ _ _ _ rfl).mono ?_; rintro e w9 ⟨rfl, hb⟩; have n0_ := Aside0.mk (below_step HB.out hb); clear HB; have HB := n0_; clear n0_ hb r0 r1 r2 r3 r4 r5; obtain ⟨r0, r1, r2, r3, r4, r5⟩ := hS.out _ HB.out) | ((with_reducible refine gate_callee (f := 28) rfl ?_); refine goesL_ (some 50) rfl rfl Tryd.func28 (by kernel_rfl) rfl #[.string S] rfl (by (try simp only [List.map_toArray, List.map_cons, List.map_nil]); first | done | rfl) ?_; (with_reducible refine (value_Text.calls S _ _ _ _ rfl).mono ?_); rintro e w9 ⟨rfl, hb⟩; refine ⟨_, rfl, ?_⟩; have n0_ := Aside0.mk (below_step HB.out hb); clear HB; have HB := n0_; clear n0_ hb r0 r1 r2 r3 r4 r5; obtain ⟨r0, r1, r2, r3, r4, r5⟩ := hS.out _ HB.out) | (with_reducible refine (value_Text.calls S _ _ _ _ rfl).mono ?_; rintro e w9 ⟨rfl, hb⟩; have n0_ := Aside0.mk (below_step HB.out hb); clear HB; have HB := n0_; clear n0_ hb r0 r1 r2 r3 r4 r5; obtain ⟨r0, r1, r2, r3, r4, r5⟩ := hS.out _ HB.out) | ((with_reducible refine gate_callee (f := 7) rfl ?_); refine goesL_ (some 80) rfl rfl Tryd.func7 (by kernel_rfl) rfl #[] rfl (by (try simp only [List.map_toArray, List.map_cons, List.map_nil]); first | done | rfl) ?_; (with_reducible refine (runs_calls _ (Val.tb HTAB (below_step HB0.out HB.out))).mono ?_); rintro e w9 ⟨rfl, hb⟩; refine ⟨_, rfl, ?_⟩; have n0_ := Aside0.mk (below_step HB.out hb); clear HB; have HB := n0_; clear n0_ hb r0 r1 r2 r3 r4 r5; obtain ⟨r0, r1, r2, r3, r4, r5⟩ := hS.out _ HB.out) | (with_reducible refine (runs_calls _ (Val.tb HTAB (below_step HB0.out HB.out))).mono ?_; rintro e w9 ⟨rfl, hb⟩; have n0_ := Aside0.mk (below_step HB.out hb); clear HB; have HB := n0_; clear n0_ hb r0 r1 r2 r3 r4 r5; obtain ⟨r0, r1, r2, r3, r4, r5⟩ := hS.out _ HB.out))
        clear EN ET
        as_aux_lemma =>
          · skip
            go_upto_region 12 with (first | ((with_reducible refine gate_callee (f := 31) rfl ?_); refine goesL_ (some 39) rfl rfl Tryd.func31 (by kernel_rfl) rfl #[.agg #[.bool true, .int .i64 a1, .string A]] rfl (by (try simp only [List.map_toArray, List.map_cons, List.map_nil]); first | done | rfl) ?_; (with_reducible refine (broadsideref1_RightValue.calls true a1 A true _ RV.out).mono ?_); rintro e w9 ⟨rfl, hb⟩; refine ⟨_, rfl, ?_⟩; have n0_ := Aside0.mk (below_step HB.out hb); clear HB; have HB := n0_; clear n0_ hb r0 r1 r2 r3 r4 r5; obtain ⟨r0, r1, r2, r3, r4, r5⟩ := hS.out _ HB.out) | (with_reducible refine (broadsideref1_RightValue.calls true a1 A true _ RV.out).mono ?_; rintro e w9 ⟨rfl, hb⟩; have n0_ := Aside0.mk (below_step HB.out hb); clear HB; have HB := n0_; clear n0_ hb r0 r1 r2 r3 r4 r5; obtain ⟨r0, r1, r2, r3, r4, r5⟩ := hS.out _ HB.out) | ((with_reducible refine gate_callee (f := 27) rfl ?_); refine goesL_ (some 43) rfl rfl Tryd.func27 (by kernel_rfl) rfl #[.int .i64 n] rfl (by (try simp only [List.map_toArray, List.map_cons, List.map_nil]); first | done | rfl) ?_; (with_reducible refine (value_Number.calls n _ _ _ _ rfl).mono ?_); rintro e w9 ⟨rfl, hb⟩; refine ⟨_, rfl, ?_⟩; have n0_ := Aside0.mk (below_step HB.out hb); clear HB; have HB := n0_; clear n0_ hb r0 r1 r2 r3 r4 r5; obtain ⟨r0, r1, r2, r3, r4, r5⟩ := hS.out _ HB.out) | (with_reducible refine (value_Number.calls n _ _ _ _ rfl).mono ?_; rintro e w9 ⟨rfl, hb⟩; have n0_ := Aside0.mk (below_step HB.out hb); clear HB; have HB := n0_; clear n0_ hb r0 r1 r2 r3 r4 r5; obtain ⟨r0, r1, r2, r3, r4, r5⟩ := hS.out _ HB.out) | ((with_reducible refine gate_callee (f := 28) rfl ?_); refine goesL_ (some 50) rfl rfl Tryd.func28 (by kernel_rfl) rfl #[.string S] rfl (by (try simp only [List.map_toArray, List.map_cons, List.map_nil]); first | done | rfl) ?_; (with_reducible refine (value_Text.calls S _ _ _ _ rfl).mono ?_); rintro e w9 ⟨rfl, hb⟩; refine ⟨_, rfl, ?_⟩; have n0_ := Aside0.mk (below_step HB.out hb); clear HB; have HB := n0_; clear n0_ hb r0 r1 r2 r3 r4 r5; obtain ⟨r0, r1, r2, r3, r4, r5⟩ := hS.out _ HB.out) | (with_reducible refine (value_Text.calls S _ _ _ _ rfl).mono ?_; rintro e w9 ⟨rfl, hb⟩; have n0_ := Aside0.mk (below_step HB.out hb); clear HB; have HB := n0_; clear n0_ hb r0 r1 r2 r3 r4 r5; obtain ⟨r0, r1, r2, r3, r4, r5⟩ := hS.out _ HB.out) | ((with_reducible refine gate_callee (f := 7) rfl ?_); refine goesL_ (some 80) rfl rfl Tryd.func7 (by kernel_rfl) rfl #[] rfl (by (try simp only [List.map_toArray, List.map_cons, List.map_nil]); first | done | rfl) ?_; (with_reducible refine (runs_calls _ (Val.tb HTAB (below_step HB0.out HB.out))).mono ?_); rintro e w9 ⟨rfl, hb⟩; refine ⟨_, rfl, ?_⟩; have n0_ := Aside0.mk (below_step HB.out hb); clear HB; have HB := n0_; clear n0_ hb r0 r1 r2 r3 r4 r5; obtain ⟨r0, r1, r2, r3, r4, r5⟩ := hS.out _ HB.out) | (with_reducible refine (runs_calls _ (Val.tb HTAB (below_step HB0.out HB.out))).mono ?_; rintro e w9 ⟨rfl, hb⟩; have n0_ := Aside0.mk (below_step HB.out hb); clear HB; have HB := n0_; clear n0_ hb r0 r1 r2 r3 r4 r5; obtain ⟨r0, r1, r2, r3, r4, r5⟩ := hS.out _ HB.out))
            have LAB : Aside0 (value_Less.f true a1 A false b1 B = some (false)) := ⟨rfl⟩
            have EQ0 : ∀ w, (binOp .eql 51 (.agg #[.bool true, .int .i64 a1, .string A]) (.agg #[.bool false, .int .i64 b1, .string B])).run Tryd.prog w = .ok (.bool E) w := fun w => by rw [eq51, EQ.out]
            have ES0 := ES.out
            have EU0 := EU.out
            as_aux_lemma =>
              obtain ⟨Wc, hWc⟩ : ∃ Wc, Wc = w9 := ⟨_, rfl⟩
              subst hWc
              refine start_ (n := 25) (S := fun w' => w'.cell? ⟨g0, 0, none⟩ = some (.bool true) ∧ w'.cell? ⟨g0, 1, none⟩ = some (.int .i64 a1) ∧ w'.cell? ⟨g0, 2, none⟩ = some (.string A) ∧ w'.cell? ⟨g1, 0, none⟩ = some (.bool false) ∧ w'.cell? ⟨g1, 1, none⟩ = some (.int .i64 b1) ∧ w'.cell? ⟨g1, 2, none⟩ = some (.string B)) (ds := []) #[false, false, false, false, false, false, false, false, false, false, false, false, false, false, false, false, false, false, false, false, false, false, false, false, false] (by kernel_rfl) rfl rfl (hS.out _ (below_drew1 HB.out)) (fun hHeld => ?_)
              have hb0 : Below W1.heap.size W1 Wc.drew := below_drew1 HB.out
              generalize Wc.drew = V0 at hb0 hHeld ⊢
              refine take_ (i := 0) (N := (some 81)) (v := ?_) (a' := ?_) #[true, false, false, false, false, false, false, false, false, false, false, false, false, false, false, false, false, false, false, false, false, false, false, false, false] rfl rfl (by kernel_rfl) (fun _ _ _ h => h) (Or.inl ⟨by rfl, ?_⟩) hHeld ?_ ?_
              rotate_left
              · rintro w' ⟨s0, s1, s2, s3, s4, s5⟩
                go_simp
                with_reducible rfl
              rotate_left
              · simp only [Act.put, List.setIfInBounds_toArray, List.set_cons_zero, List.set_cons_succ, i64_w, i32_w]
                rfl
              refine take_ (i := 1) (N := (some 82)) (v := ?_) (a' := ?_) #[true, true, false, false, false, false, false, false, false, false, false, false, false, false, false, false, false, false, false, false, false, false, false, false, false] rfl rfl (by kernel_rfl) (fun _ _ _ h => h) (Or.inl ⟨by rfl, ?_⟩) hHeld ?_ ?_
              rotate_left
              · rintro w' ⟨s0, s1, s2, s3, s4, s5⟩
                go_simp
                with_reducible rfl
              rotate_left
              · simp only [Act.put, List.setIfInBounds_toArray, List.set_cons_zero, List.set_cons_succ, i64_w, i32_w]
                rfl
              refine pure_ (i := 3) (N := (some 84)) (v := ?_) (a' := ?_) #[true, true, false, true, false, false, false, false, false, false, false, false, false, false, false, false, false, false, false, false, false, false, false, false, false] rfl rfl (by kernel_rfl) (fun _ _ _ h => h) (Or.inl ⟨by rfl, ?_⟩) ?_ ?_
              rotate_left
              · intro w'
                go_simp
                with_reducible rfl
              rotate_left
              · simp only [Act.put, List.setIfInBounds_toArray, List.set_cons_zero, List.set_cons_succ, i64_w, i32_w]
                rfl
              refine one_ (i := 2) (N := (some 83)) #[true, true, true, true, false, false, false, false, false, false, false, false, false, false, false, false, false, false, false, false, false, false, false, false, false] rfl rfl (by kernel_rfl) (by decide) (fun K hK => ?_)
              refine goes_ Tryd.func26 (by kernel_rfl) rfl #[.agg #[.bool true, .int .i64 a1, .string A], .agg #[.bool false, .int .i64 b1, .string B]] (by rfl) rfl rfl (by (try simp only [List.map_toArray, List.map_cons, List.map_nil]); first | done | rfl) ?_
              refine (value_Less.calls true a1 A false b1 B false _ LAB.out).mono ?_
              rintro e V1 ⟨rfl, hbc⟩
              refine ⟨_, rfl, ?_⟩
              have hb1 : Below W1.heap.size W1 V1 := below_step hb0 hbc
              refine hK.out _ _ (hS.out _ hb1) (fun hHeld => ?_)
              clear hK K hbc
              refine norm_ (a' := ?_) ?_ ?_
              rotate_left
              · show Act.put _ (some 83) _ = _
                simp only [Act.put, List.setIfInBounds_toArray, List.set_cons_zero, List.set_cons_succ, i64_w, i32_w]
                rfl
              refine pure_ (i := 4) (N := (some 85)) (v := ?_) (a' := ?_) #[true, true, true, true, true, false, false, false, false, false, false, false, false, false, false, false, false, false, false, false, false, false, false, false, false] rfl rfl (by kernel_rfl) (fun _ _ _ h => h) (Or.inl ⟨by rfl, ?_⟩) ?_ ?_
              rotate_left
              · intro w'
                go_simp
                with_reducible rfl
              rotate_left
              · simp only [Act.put, List.setIfInBounds_toArray, List.set_cons_zero, List.set_cons_succ, i64_w, i32_w]
                rfl
              refine pure_ (i := 5) (N := (some 86)) (v := ?_) (a' := ?_) #[true, true, true, true, true, true, false, false, false, false, false, false, false, false, false, false, false, false, false, false, false, false, false, false, false] rfl rfl (by kernel_rfl) (fun _ _ _ h => h) (Or.inl ⟨by rfl, ?_⟩) ?_ ?_
              rotate_left
              · intro w'
                go_simp
                with_reducible rfl
              rotate_left
              · simp only [Act.put, List.setIfInBounds_toArray, List.set_cons_zero, List.set_cons_succ, i64_w, i32_w]
                rfl
              refine take_ (i := 6) (N := (some 87)) (v := ?_) (a' := ?_) #[true, true, true, true, true, true, true, false, false, false, false, false, false, false, false, false, false, false, false, false, false, false, false, false, false] rfl rfl (by kernel_rfl) (fun _ _ _ h => h) (Or.inl ⟨by rfl, ?_⟩) hHeld ?_ ?_
              rotate_left
              · rintro w' ⟨s0, s1, s2, s3, s4, s5⟩
                go_simp
                with_reducible rfl
              rotate_left
              · simp only [Act.put, List.setIfInBounds_toArray, List.set_cons_zero, List.set_cons_succ, i64_w, i32_w]
                rfl
              refine take_ (i := 8) (N := (some 89)) (v := ?_) (a' := ?_) #[true, true, true, true, true, true, true, false, true, false, false, false, false, false, false, false, false, false, false, false, false, false, false, false, false] rfl rfl (by kernel_rfl) (fun _ _ _ h => h) (Or.inl ⟨by rfl, ?_⟩) hHeld ?_ ?_
              rotate_left
              · rintro w' ⟨s0, s1, s2, s3, s4, s5⟩
                go_simp
                with_reducible rfl
              rotate_left
              · simp only [Act.put, List.setIfInBounds_toArray, List.set_cons_zero, List.set_cons_succ, i64_w, i32_w]
                rfl
              refine take_ (i := 11) (N := (some 92)) (v := ?_) (a' := ?_) #[true, true, true, true, true, true, true, false, true, false, false, true, false, false, false, false, false, false, false, false, false, false, false, false, false] rfl rfl (by kernel_rfl) (fun _ _ _ h => h) (Or.inl ⟨by rfl, ?_⟩) hHeld ?_ ?_
              rotate_left
              · rintro w' ⟨s0, s1, s2, s3, s4, s5⟩
                go_simp
                with_reducible rfl
              rotate_left
              · simp only [Act.put, List.setIfInBounds_toArray, List.set_cons_zero, List.set_cons_succ, i64_w, i32_w]
                rfl
              refine take_ (i := 12) (N := (some 93)) (v := ?_) (a' := ?_) #[true, true, true, true, true, true, true, false, true, false, false, true, true, false, false, false, false, false, false, false, false, false, false, false, false] rfl rfl (by kernel_rfl) (fun _ _ _ h => h) (Or.inl ⟨by rfl, ?_⟩) hHeld ?_ ?_
              rotate_left
              · rintro w' ⟨s0, s1, s2, s3, s4, s5⟩
                go_simp
                with_reducible rfl
              rotate_left
              · simp only [Act.put, List.setIfInBounds_toArray, List.set_cons_zero, List.set_cons_succ, i64_w, i32_w]
                rfl
              refine pure_ (i := 13) (N := (some 94)) (v := ?_) (a' := ?_) #[true, true, true, true, true, true, true, false, true, false, false, true, true, true, false, false, false, false, false, false, false, false, false, false, false] rfl rfl (by kernel_rfl) (fun _ _ _ h => h) (Or.inl ⟨by rfl, ?_⟩) ?_ ?_
              rotate_left
              · intro w'
                go_simp
                with_reducible rfl
              rotate_left
              · simp only [Act.put, List.setIfInBounds_toArray, List.set_cons_zero, List.set_cons_succ, i64_w, i32_w]
                rfl
              refine one_ (i := 7) (N := (some 88)) #[true, true, true, true, true, true, true, true, true, false, false, true, true, true, false, false, false, false, false, false, false, false, false, false, false] rfl rfl (by kernel_rfl) (by decide) (fun K hK => ?_)
              refine goes_ Tryd.func29 (by kernel_rfl) rfl #[.agg #[.bool true, .int .i64 a1, .string A]] (by rfl) rfl rfl (by (try simp only [List.map_toArray, List.map_cons, List.map_nil]); first | done | rfl) ?_
              refine (value_Say.calls true a1 A u _ (Val.tb HTAB (below_step HB0.out hb1)) SA.out).mono ?_
              rintro e V2 ⟨rfl, hbc⟩
              refine ⟨_, rfl, ?_⟩
              have hb2 : Below W1.heap.size W1 V2 := below_step hb1 hbc
              refine hK.out _ _ (hS.out _ hb2) (fun hHeld => ?_)
              clear hK K hbc
              refine norm_ (a' := ?_) ?_ ?_
              rotate_left
              · show Act.put _ (some 88) _ = _
                simp only [Act.put, List.setIfInBounds_toArray, List.set_cons_zero, List.set_cons_succ, i64_w, i32_w]
                rfl
              refine one_ (i := 9) (N := (some 90)) #[true, true, true, true, true, true, true, true, true, true, false, true, true, true, false, false, false, false, false, false, false, false, false, false, false] rfl rfl (by kernel_rfl) (by decide) (fun K hK => ?_)
              refine goes_ Tryd.func29 (by kernel_rfl) rfl #[.agg #[.bool false, .int .i64 b1, .string B]] (by rfl) rfl rfl (by (try simp only [List.map_toArray, List.map_cons, List.map_nil]); first | done | rfl) ?_
              refine (value_Say.calls false b1 B v _ (Val.tb HTAB (below_step HB0.out hb2)) SB.out).mono ?_
              rintro e V3 ⟨rfl, hbc⟩
              refine ⟨_, rfl, ?_⟩
              have hb3 : Below W1.heap.size W1 V3 := below_step hb2 hbc
              refine hK.out _ _ (hS.out _ hb3) (fun hHeld => ?_)
              clear hK K hbc
              refine norm_ (a' := ?_) ?_ ?_
              rotate_left
              · show Act.put _ (some 90) _ = _
                simp only [Act.put, List.setIfInBounds_toArray, List.set_cons_zero, List.set_cons_succ, i64_w, i32_w]
                rfl
              refine pure_ (i := 10) (N := (some 91)) (v := ?_) (a' := ?_) #[true, true, true, true, true, true, true, true, true, true, true, true, true, true, false, false, false, false, false, false, false, false, false, false, false] rfl rfl (by kernel_rfl) (fun _ _ _ h => h) (Or.inl ⟨by rfl, ?_⟩) ?_ ?_
              rotate_left
              · intro w'
                go_simp
                with_reducible rfl
              rotate_left
              · simp only [Act.put, List.setIfInBounds_toArray, List.set_cons_zero, List.set_cons_succ, i64_w, i32_w]
                rfl
              refine pure_ (i := 14) (N := (some 95)) (v := ?_) (a' := ?_) #[true, true, true, true, true, true, true, true, true, true, true, true, true, true, true, false, false, false, false, false, false, false, false, false, false] rfl rfl (by kernel_rfl) (fun _ _ _ h => h) (Or.inl ⟨by rfl, ?_⟩) ?_ ?_
              rotate_left
              · intro w'
                go_simp
                with_reducible rfl
              rotate_left
              · simp only [Act.put, List.setIfInBounds_toArray, List.set_cons_zero, List.set_cons_succ, i64_w, i32_w]
                rfl
              refine pure_ (i := 15) (N := (some 96)) (v := ?_) (a' := ?_) #[true, true, true, true, true, true, true, true, true, true, true, true, true, true, true, true, false, false, false, false, false, false, false, false, false] rfl rfl (by kernel_rfl) (fun _ _ _ h => h) (Or.inl ⟨by rfl, ?_⟩) ?_ ?_
              rotate_left
              · intro w'
                go_simp
                with_reducible rfl
              rotate_left
              · simp only [Act.put, List.setIfInBounds_toArray, List.set_cons_zero, List.set_cons_succ, i64_w, i32_w]
                rfl
              refine pure_ (i := 16) (N := (some 97)) (v := ?_) (a' := ?_) #[true, true, true, true, true, true, true, true, true, true, true, true, true, true, true, true, true, false, false, false, false, false, false, false, false] rfl rfl (by kernel_rfl) (fun _ _ _ h => h) (Or.inl ⟨by rfl, ?_⟩) ?_ ?_
              rotate_left
              · intro w'
                go_simp
                with_reducible rfl
              rotate_left
              · simp only [Act.put, List.setIfInBounds_toArray, List.set_cons_zero, List.set_cons_succ, i64_w, i32_w]
                rfl
              refine take_ (i := 17) (N := (some 98)) (v := ?_) (a' := ?_) #[true, true, true, true, true, true, true, true, true, true, true, true, true, true, true, true, true, true, false, false, false, false, false, false, false] rfl rfl (by kernel_rfl) (fun _ _ _ h => h) (Or.inl ⟨by rfl, ?_⟩) hHeld ?_ ?_
              rotate_left
              · rintro w' ⟨s0, s1, s2, s3, s4, s5⟩
                go_simp
                with_reducible rfl
              rotate_left
              · simp only [Act.put, List.setIfInBounds_toArray, List.set_cons_zero, List.set_cons_succ, i64_w, i32_w]
                rfl
              refine one_ (i := 18) (N := (some 99)) #[true, true, true, true, true, true, true, true, true, true, true, true, true, true, true, true, true, true, true, false, false, false, false, false, false] rfl rfl (by kernel_rfl) (by decide) (fun K hK => ?_)
              refine goes_ Tryd.func29 (by kernel_rfl) rfl #[.agg #[.bool true, .int .i64 a1, .string A]] (by rfl) rfl rfl (by (try simp only [List.map_toArray, List.map_cons, List.map_nil]); first | done | rfl) ?_
              refine (value_Say.calls true a1 A u _ (Val.tb HTAB (below_step HB0.out hb3)) SA.out).mono ?_
              rintro e V4 ⟨rfl, hbc⟩
              refine ⟨_, rfl, ?_⟩
              have hb4 : Below W1.heap.size W1 V4 := below_step hb3 hbc
              refine hK.out _ _ (hS.out _ hb4) (fun hHeld => ?_)
              clear hK K hbc
              refine norm_ (a' := ?_) ?_ ?_
              rotate_left
              · show Act.put _ (some 99) _ = _
                simp only [Act.put, List.setIfInBounds_toArray, List.set_cons_zero, List.set_cons_succ, i64_w, i32_w]
                rfl
              refine pure_ (i := 19) (N := (some 100)) (v := ?_) (a' := ?_) #[true, true, true, true, true, true, true, true, true, true, true, true, true, true, true, true, true, true, true, true, false, false, false, false, false] rfl rfl (by kernel_rfl) (fun _ _ _ h => h) (Or.inl ⟨by rfl, ?_⟩) ?_ ?_
              rotate_left
              · intro w'
                go_simp
                with_reducible rfl
              rotate_left
              · simp only [Act.put, List.setIfInBounds_toArray, List.set_cons_zero, List.set_cons_succ, i64_w, i32_w]
                rfl
              refine pure_ (i := 20) (N := (some 101)) (v := ?_) (a' := ?_) #[true, true, true, true, true, true, true, true, true, true, true, true, true, true, true, true, true, true, true, true, true, false, false, false, false] rfl rfl (by kernel_rfl) (fun _ _ _ h => h) (Or.inl ⟨by rfl, ?_⟩) ?_ ?_
              rotate_left
              · intro w'
                go_simp
                with_reducible rfl
              rotate_left
              · simp only [Act.put, List.setIfInBounds_toArray, List.set_cons_zero, List.set_cons_succ, i64_w, i32_w]
                rfl
              refine pure_ (i := 21) (N := (some 102)) (v := ?_) (a' := ?_) #[true, true, true, true, true, true, true, true, true, true, true, true, true, true, true, true, true, true, true, true, true, true, false, false, false] rfl rfl (by kernel_rfl) (fun _ _ _ h => h) (Or.inl ⟨by rfl, ?_⟩) ?_ ?_
              rotate_left
              · intro w'
                go_simp
                with_reducible rfl
              rotate_left
              · simp only [Act.put, List.setIfInBounds_toArray, List.set_cons_zero, List.set_cons_succ, i64_w, i32_w]
                rfl
              refine one_ (i := 22) (N := (some 103)) #[true, true, true, true, true, true, true, true, true, true, true, true, true, true, true, true, true, true, true, true, true, true, true, false, false] rfl rfl (by kernel_rfl) (by decide) (fun K hK => ?_)
              refine goes_ Tryd.func7 (by kernel_rfl) rfl #[] (by rfl) rfl rfl (by (try simp only [List.map_toArray, List.map_cons, List.map_nil]); first | done | rfl) ?_
              refine (runs_calls _ (Val.tb HTAB (below_step HB0.out hb4))).mono ?_
              rintro e V5 ⟨rfl, hbc⟩
              refine ⟨_, rfl, ?_⟩
              have hb5 : Below W1.heap.size W1 V5 := below_step hb4 hbc
              refine hK.out _ _ (hS.out _ hb5) (fun hHeld => ?_)
              clear hK K hbc
              refine norm_ (a' := ?_) ?_ ?_
              rotate_left
              · show Act.put _ (some 103) _ = _
                simp only [Act.put, List.setIfInBounds_toArray, List.set_cons_zero, List.set_cons_succ, i64_w, i32_w]
                rfl
              refine pure_ (i := 23) (N := (some 104)) (v := ?_) (a' := ?_) #[true, true, true, true, true, true, true, true, true, true, true, true, true, true, true, true, true, true, true, true, true, true, true, true, false] rfl rfl (by kernel_rfl) (fun _ _ _ h => h) (Or.inl ⟨by rfl, ?_⟩) ?_ ?_
              rotate_left
              · intro w'
                go_simp
                with_reducible rfl
              rotate_left
              · simp only [Act.put, List.setIfInBounds_toArray, List.set_cons_zero, List.set_cons_succ, i64_w, i32_w]
                rfl
              refine pure_ (i := 24) (N := (some 8)) (v := ?_) (a' := ?_) #[true, true, true, true, true, true, true, true, true, true, true, true, true, true, true, true, true, true, true, true, true, true, true, true, true] rfl rfl (by kernel_rfl) (fun _ _ _ h => h) (Or.inl ⟨by rfl, ?_⟩) ?_ ?_
              rotate_left
              · intro w'
                go_simp
                with_reducible rfl
              rotate_left
              · simp only [Act.put, List.setIfInBounds_toArray, List.set_cons_zero, List.set_cons_succ, i64_w, i32_w]
                rfl
              refine done_ (by kernel_rfl) ?_
              have HF := Aside0.mk (below_step HB0.out hb5)
              go_wp2
              go_ret
              exact ⟨rfl, HF.out⟩
set_option maxRecDepth 1000000 in
set_option maxHeartbeats 3200000 in
theorem tells_tt_11 (a1 : Int) (a2 : ByteArray) (b1 : Int) (b2 : ByteArray) (n : Int) (s : ByteArray) (w : World) (HTAB : Aside0 (Val.Tab w)) (ma mb ms : Int) (A B S : ByteArray)
    (ema : (if 15 < (a2.size : Int) then 15 else (a2.size : Int)) = ma) (emb : (if 15 < (b2.size : Int) then 15 else (b2.size : Int)) = mb) (ems : (if 15 < (s.size : Int) then 15 else (s.size : Int)) = ms)
    (hca : ∀ w, (Instr.slice 9 (.string a2) none (some (.int .i64 ma)) none).run Tryd.prog w = .ok (.string A) w) (hcb : ∀ w, (Instr.slice 9 (.string b2) none (some (.int .i64 mb)) none).run Tryd.prog w = .ok (.string B) w) (hcs : ∀ w, (Instr.slice 9 (.string s) none (some (.int .i64 ms)) none).run Tryd.prog w = .ok (.string S) w)
    (RA : Aside0 (value_Right.f true a1 A = some true)) (RB : Aside0 (value_Right.f true b1 B = some true)) (RV : Aside0 (broadsideref1_RightValue.f true a1 A = some true)) (u v : ByteArray) (E : Bool) (SA : Aside0 (value_Say.f true a1 A = some u)) (SB : Aside0 (value_Say.f true b1 B = some v)) (EQ : Aside0 (eqV true a1 A true b1 B = E)) (ES : Aside0 ((u.toList == v.toList) = E)) (EU : Aside0 ((u.toList == ([] : List UInt8)) = false)) :
    Calls Tryd.prog 8 #[.agg #[.bool true, .int .i64 a1, .string a2], .agg #[.bool true, .int .i64 b1, .string b2], .int .i64 n, .string s] w fun e w' => e = .returned (.bool true) ∧ Below w.heap.size w w' := by
  have hu51 := Tryd.underlying51
  go_enter Tryd.func8, Tryd.ntmps8
  go_upto_region 1 with (fail)
  obtain ⟨W, hW⟩ : ∃ W, W = ((w.alloc (.cells #[.bool true, .int .i64 a1, .string a2] 51)).alloc (.cells #[.bool true, .int .i64 b1, .string b2] 51)) := ⟨_, rfl⟩
  rw [← hW]
  have k4 : W.heap[w.heap.size]? = some (.cells #[.bool true, .int .i64 a1, .string a2] 51 (0, 0)) := by rw [hW]; exact (Val.old_alloc (by simp)).trans (heap_alloc_last w _)
  have k5 : W.heap[w.heap.size + 1]? = some (.cells #[.bool true, .int .i64 b1, .string b2] 51 (0, 0)) := by
    rw [hW]
    have h_ := heap_alloc_last (w.alloc (.cells #[.bool true, .int .i64 a1, .string a2] 51)) (.cells #[.bool true, .int .i64 b1, .string b2] 51)
    rw [show (w.alloc (.cells #[.bool true, .int .i64 a1, .string a2] 51)).heap.size = w.heap.size + 1 from by simp] at h_
    exact h_
  have HB0 : Aside0 (Below w.heap.size w W) := ⟨by rw [hW]; exact below_alloc (below_alloc (Below.refl _ _) _) _⟩
  clear hW
  have c4 : W.cell? ⟨w.heap.size, 2, none⟩ = some (.string a2) := (Val.cell_blk k4 2).trans rfl
  have c5 : W.cell? ⟨w.heap.size + 1, 2, none⟩ = some (.string b2) := (Val.cell_blk k5 2).trans rfl
  have f4 : W.frozen? ⟨w.heap.size, 2, none⟩ = false := by simp [World.frozen?, k4]
  have f5 : W.frozen? ⟨w.heap.size + 1, 2, none⟩ = false := by simp [World.frozen?, k5]
  go_region
  clear c4 c5 f4 f5 hca hcb hcs ema emb ems
  as_aux_lemma =>
    obtain ⟨W1, hW1⟩ : ∃ W1, W1 = ((W.setCell ⟨w.heap.size, 2, none⟩ (.string A)).setCell ⟨w.heap.size + 1, 2, none⟩ (.string B)).drew := ⟨_, rfl⟩
    rw [← hW1]
    have k4' : W1.heap[w.heap.size]? = some (.cells #[.bool true, .int .i64 a1, .string A] 51 (0, 0)) := by
      rw [hW1]
      exact (Val.set_far _ _ _ _ _ (by omega)).trans (Val.set_blk k4 2 _)
    have k5' : W1.heap[w.heap.size + 1]? = some (.cells #[.bool true, .int .i64 b1, .string B] 51 (0, 0)) := by
      rw [hW1]
      exact Val.set_blk ((Val.set_far _ _ _ _ _ (by omega)).trans k5) 2 _
    have HB1 : Aside0 (Below w.heap.size w W1) := ⟨by rw [hW1]; exact below_drew1 (((HB0.out).setCell (Nat.le_refl _) _).setCell (Nat.le_succ _) _)⟩
    clear hW1 k4 k5 HB0
    have HB0 := HB1
    clear HB1
    go_upto_region 2 with (fail)
    have hS : Aside0 (∀ w', Below W1.heap.size W1 w' → w'.cell? ⟨w.heap.size, 0, none⟩ = some (.bool true) ∧ w'.cell? ⟨w.heap.size, 1, none⟩ = some (.int .i64 a1) ∧ w'.cell? ⟨w.heap.size, 2, none⟩ = some (.string A) ∧ w'.cell? ⟨w.heap.size + 1, 0, none⟩ = some (.bool true) ∧ w'.cell? ⟨w.heap.size + 1, 1, none⟩ = some (.int .i64 b1) ∧ w'.cell? ⟨w.heap.size + 1, 2, none⟩ = some (.string B)) := ⟨fun w' hw => ⟨(Val.cell_blk ((hw.block _ (Val.lt_blk k4')).trans k4') 0).trans rfl, (Val.cell_blk ((hw.block _ (Val.lt_blk k4')).trans k4') 1).trans rfl, (Val.cell_blk ((hw.block _ (Val.lt_blk k4')).trans k4') 2).trans rfl, (Val.cell_blk ((hw.block _ (Val.lt_blk k5')).trans k5') 0).trans rfl, (Val.cell_blk ((hw.block _ (Val.lt_blk k5')).trans k5') 1).trans rfl, (Val.cell_blk ((hw.block _ (Val.lt_blk k5')).trans k5') 2).trans rfl⟩⟩
    clear k4' k5'
    generalize w.heap.size + 1 = g1 at hS ⊢
    generalize hg0 : w.heap.size = g0 at hS ⊢
    as_aux_lemma =>
      refine start_ (n := 6) (S := fun w' => w'.cell? ⟨g0, 0, none⟩ = some (.bool true) ∧ w'.cell? ⟨g0, 1, none⟩ = some (.int .i64 a1) ∧ w'.cell? ⟨g0, 2, none⟩ = some (.string A) ∧ w'.cell? ⟨g1, 0, none⟩ = some (.bool true) ∧ w'.cell? ⟨g1, 1, none⟩ = some (.int .i64 b1) ∧ w'.cell? ⟨g1, 2, none⟩ = some (.string B)) (ds := []) #[false, false, false, false, false, false] (by kernel_rfl) rfl rfl (hS.out _ (below_drew1 (Below.refl _ _))) (fun hHeld => ?_)
      have hb0 : Below W1.heap.size W1 W1.drew := below_drew1 (Below.refl _ _)
      generalize W1.drew = V0 at hb0 hHeld ⊢
      refine take_ (i := 0) (N := (some 33)) (v := ?_) (a' := ?_) #[true, false, false, false, false, false] rfl rfl (by kernel_rfl) (fun _ _ _ h => h) (Or.inl ⟨by rfl, ?_⟩) hHeld ?_ ?_
      rotate_left
      · rintro w' ⟨s0, s1, s2, s3, s4, s5⟩
        go_simp
        with_reducible rfl
      rotate_left
      · simp only [Act.put, List.setIfInBounds_toArray, List.set_cons_zero, List.set_cons_succ, i64_w, i32_w]
        rfl
      refine take_ (i := 2) (N := (some 35)) (v := ?_) (a' := ?_) #[true, false, true, false, false, false] rfl rfl (by kernel_rfl) (fun _ _ _ h => h) (Or.inl ⟨by rfl, ?_⟩) hHeld ?_ ?_
      rotate_left
      · rintro w' ⟨s0, s1, s2, s3, s4, s5⟩
        go_simp
        with_reducible rfl
      rotate_left
      · simp only [Act.put, List.setIfInBounds_toArray, List.set_cons_zero, List.set_cons_succ, i64_w, i32_w]
        rfl
      refine one_ (i := 1) (N := (some 34)) #[true, true, true, false, false, false] rfl rfl (by kernel_rfl) (by decide) (fun K hK => ?_)
      refine goes_ Tryd.func30 (by kernel_rfl) rfl #[.agg #[.bool true, .int .i64 a1, .string A]] (by rfl) rfl rfl (by (try simp only [List.map_toArray, List.map_cons, List.map_nil]); first | done | rfl) ?_
      refine (value_Right.calls true a1 A true _ RA.out).mono ?_
      rintro e V1 ⟨rfl, hbc⟩
      refine ⟨_, rfl, ?_⟩
      have hb1 : Below W1.heap.size W1 V1 := below_step hb0 hbc
      refine hK.out _ _ (hS.out _ hb1) (fun hHeld => ?_)
      clear hK K hbc
      refine norm_ (a' := ?_) ?_ ?_
      rotate_left
      · show Act.put _ (some 34) _ = _
        simp only [Act.put, List.setIfInBounds_toArray, List.set_cons_zero, List.set_cons_succ, i64_w, i32_w]
        rfl
      refine one_ (i := 3) (N := (some 36)) #[true, true, true, true, false, false] rfl rfl (by kernel_rfl) (by decide) (fun K hK => ?_)
      refine goes_ Tryd.func30 (by kernel_rfl) rfl #[.agg #[.bool true, .int .i64 b1, .string B]] (by rfl) rfl rfl (by (try simp only [List.map_toArray, List.map_cons, List.map_nil]); first | done | rfl) ?_
      refine (value_Right.calls true b1 B true _ RB.out).mono ?_
      rintro e V2 ⟨rfl, hbc⟩
      refine ⟨_, rfl, ?_⟩
      have hb2 : Below W1.heap.size W1 V2 := below_step hb1 hbc
      refine hK.out _ _ (hS.out _ hb2) (fun hHeld => ?_)
      clear hK K hbc
      refine norm_ (a' := ?_) ?_ ?_
      rotate_left
      · show Act.put _ (some 36) _ = _
        simp only [Act.put, List.setIfInBounds_toArray, List.set_cons_zero, List.set_cons_succ, i64_w, i32_w]
        rfl
      refine pure_ (i := 4) (N := (some 9)) (v := ?_) (a' := ?_) #[true, true, true, true, true, false] rfl rfl (by kernel_rfl) (fun _ _ _ h => h) (Or.inl ⟨by rfl, ?_⟩) ?_ ?_
      rotate_left
      · intro w'
        go_simp
        with_reducible rfl
      rotate_left
      · simp only [Act.put, List.setIfInBounds_toArray, List.set_cons_zero, List.set_cons_succ, i64_w, i32_w]
        rfl
      refine pure_ (i := 5) (N := (some 10)) (v := ?_) (a' := ?_) #[true, true, true, true, true, true] rfl rfl (by kernel_rfl) (fun _ _ _ h => h) (Or.inl ⟨by rfl, ?_⟩) ?_ ?_
      rotate_left
      · intro w'
        go_simp
        with_reducible rfl
      rotate_left
      · simp only [Act.put, List.setIfInBounds_toArray, List.set_cons_zero, List.set_cons_succ, i64_w, i32_w]
        rfl
      refine done_ (by kernel_rfl) ?_
      have HB := Aside0.mk hb2
      clear hb0 hb1 hb2 hHeld
      obtain ⟨r0, r1, r2, r3, r4, r5⟩ := hS.out _ HB.out
      as_aux_lemma =>
        have EN : ∀ w, (binOp .neq 51 (.agg #[.bool false, .int .i64 n, .string ⟨#[]⟩]) (.agg #[.bool false, .int .i64 n, .string ⟨#[]⟩])).run Tryd.prog w = .ok (.bool false) w := fun w => by rw [neq51]; simp [eqV]
        have ET : ∀ w, (binOp .neq 51 (.agg #[.bool true, .int .i64 0, .string S]) (.agg #[.bool true, .int .i64 0, .string S])).run Tryd.prog w = .ok (.bool false) w := fun w => by rw [neq51]; simp [eqV]
        go_upto_region 5 with (first | ((with_reducible refine gate_callee (f := 31) rfl ?_); refine goesL_ (some 39) rfl rfl Tryd.func31 (by kernel_rfl) rfl #[.agg #[.bool true, .int .i64 a1, .string A]] rfl (by (try simp only [List.map_toArray, List.map_cons, List.map_nil]); first | done | rfl) ?_; (with_reducible refine (broadsideref1_RightValue.calls true a1 A true _ RV.out).mono ?_); rintro e w9 ⟨rfl, hb⟩; refine ⟨_, rfl, ?_⟩; have n0_ := Aside0.mk (below_step HB.out hb); clear HB; have HB := n0_; clear n0_ hb r0 r1 r2 r3 r4 r5; obtain ⟨r0, r1, r2, r3, r4, r5⟩ := hS.out _ HB.out) | (with_reducible refine (broadsideref1_RightValue.calls true a1 A true _ RV.out).mono ?_; rintro e w9 ⟨rfl, hb⟩; have n0_ := Aside0.mk (below_step HB.out hb); clear HB; have HB := n0_; clear n0_ hb r0 r1 r2 r3 r4 r5; obtain ⟨r0, r1, r2, r3, r4, r5⟩ := hS.out _ HB.out) | ((with_reducible refine gate_callee (f := 27) rfl ?_); refine goesL_ (some 43) rfl rfl Tryd.func27 (by kernel_rfl) rfl #[.int .i64 n] rfl (by (try simp only [List.map_toArray, List.map_cons, List.map_nil]); first | done | rfl) ?_; (with_reducible refine (value_Number.calls n _ _ _ _ rfl).mono ?_); rintro e w9 ⟨rfl, hb⟩; refine ⟨_, rfl, ?_⟩; have n0_ := Aside0.mk (below_step HB.out hb); clear HB; have HB := n0_; clear n0_ hb r0 r1 r2 r3 r4 r5; obtain ⟨r0, r1, r2, r3, r4, r5⟩ := hS.out _ HB.out) | (with_reducible refine (value_Number.calls n _ _ _ _ rfl).mono ?_; rintro e w9 ⟨rfl, hb⟩; have n0_ := Aside0.mk (below_step HB.out hb); clear HB; have HB := n0_; clear n0_ hb r0 r1 r2 r3 r4 r5; obtain ⟨r0, r1, r2, r3, r4, r5⟩ := hS.out _ HB.out) | ((with_reducible refine gate_callee (f := 28) rfl ?_); refine goesL_ (some 50) rfl rfl Tryd.func28 (by kernel_rfl) rfl #[.string S] rfl (by (try simp only [List.map_toArray, List.map_cons, List.map_nil]); first | done | rfl) ?_; (with_reducible refine (value_Text.calls S _ _ _ _ rfl).mono ?_); rintro e w9 ⟨rfl, hb⟩; refine ⟨_, rfl, ?_⟩; have n0_ := Aside0.mk (below_step HB.out hb); clear HB; have HB := n0_; clear n0_ hb r0 r1 r2 r3 r4 r5; obtain ⟨r0, r1, r2, r3, r4, r5⟩ := hS.out _ HB.out) | (with_reducible refine (value_Text.calls S _ _ _ _ rfl).mono ?_; rintro e w9 ⟨rfl, hb⟩; have n0_ := Aside0.mk (below_step HB.out hb); clear HB; have HB := n0_; clear n0_ hb r0 r1 r2 r3 r4 r5; obtain ⟨r0, r1, r2, r3, r4, r5⟩ := hS.out _ HB.out) | ((with_reducible refine gate_callee (f := 7) rfl ?_); refine goesL_ (some 80) rfl rfl Tryd.func7 (by kernel_rfl) rfl #[] rfl (by (try simp only [List.map_toArray, List.map_cons, List.map_nil]); first | done | rfl) ?_; (with_reducible refine (runs_calls _ (Val.tb HTAB (below_step HB0.out HB.out))).mono ?_); rintro e w9 ⟨rfl, hb⟩; refine ⟨_, rfl, ?_⟩; have n0_ := Aside0.mk (below_step HB.out hb); clear HB; have HB := n0_; clear n0_ hb r0 r1 r2 r3 r4 r5; obtain ⟨r0, r1, r2, r3, r4, r5⟩ := hS.out _ HB.out) | (with_reducible refine (runs_calls _ (Val.tb HTAB (below_step HB0.out HB.out))).mono ?_; rintro e w9 ⟨rfl, hb⟩; have n0_ := Aside0.mk (below_step HB.out hb); clear HB; have HB := n0_; clear n0_ hb r0 r1 r2 r3 r4 r5; obtain ⟨r0, r1, r2, r3, r4, r5⟩ := hS.out _ HB.out))
        clear EN ET
        as_aux_lemma =>
          · skip
            go_upto_region 12 with (first | ((with_reducible refine gate_callee (f := 31) rfl ?_); refine goesL_ (some 39) rfl rfl Tryd.func31 (by kernel_rfl) rfl #[.agg #[.bool true, .int .i64 a1, .string A]] rfl (by (try simp only [List.map_toArray, List.map_cons, List.map_nil]); first | done | rfl) ?_; (with_reducible refine (broadsideref1_RightValue.calls true a1 A true _ RV.out).mono ?_); rintro e w9 ⟨rfl, hb⟩; refine ⟨_, rfl, ?_⟩; have n0_ := Aside0.mk (below_step HB.out hb); clear HB; have HB := n0_; clear n0_ hb r0 r1 r2 r3 r4 r5; obtain ⟨r0, r1, r2, r3, r4, r5⟩ := hS.out _ HB.out) | (with_reducible refine (broadsideref1_RightValue.calls true a1 A true _ RV.out).mono ?_; rintro e w9 ⟨rfl, hb⟩; have n0_ := Aside0.mk (below_step HB.out hb); clear HB; have HB := n0_; clear n0_ hb r0 r1 r2 r3 r4 r5; obtain ⟨r0, r1, r2, r3, r4, r5⟩ := hS.out _ HB.out) | ((with_reducible refine gate_callee (f := 27) rfl ?_); refine goesL_ (some 43) rfl rfl Tryd.func27 (by kernel_rfl) rfl #[.int .i64 n] rfl (by (try simp only [List.map_toArray, List.map_cons, List.map_nil]); first | done | rfl) ?_; (with_reducible refine (value_Number.calls n _ _ _ _ rfl).mono ?_); rintro e w9 ⟨rfl, hb⟩; refine ⟨_, rfl, ?_⟩; have n0_ := Aside0.mk (below_step HB.out hb); clear HB; have HB := n0_; clear n0_ hb r0 r1 r2 r3 r4 r5; obtain ⟨r0, r1, r2, r3, r4, r5⟩ := hS.out _ HB.out) | (with_reducible refine (value_Number.calls n _ _ _ _ rfl).mono ?_; rintro e w9 ⟨rfl, hb⟩; have n0_ := Aside0.mk (below_step HB.out hb); clear HB; have HB := n0_; clear n0_ hb r0 r1 r2 r3 r4 r5; obtain ⟨r0, r1, r2, r3, r4, r5⟩ := hS.out _ HB.out) | ((with_reducible refine gate_callee (f := 28) rfl ?_); refine goesL_ (some 50) rfl rfl Tryd.func28 (by kernel_rfl) rfl #[.string S] rfl (by (try simp only [List.map_toArray, List.map_cons, List.map_nil]); first | done | rfl) ?_; (with_reducible refine (value_Text.calls S _ _ _ _ rfl).mono ?_); rintro e w9 ⟨rfl, hb⟩; refine ⟨_, rfl, ?_⟩; have n0_ := Aside0.mk (below_step HB.out hb); clear HB; have HB := n0_; clear n0_ hb r0 r1 r2 r3 r4 r5; obtain ⟨r0, r1, r2, r3, r4, r5⟩ := hS.out _ HB.out) | (with_reducible refine (value_Text.calls S _ _ _ _ rfl).mono ?_; rintro e w9 ⟨rfl, hb⟩; have n0_ := Aside0.mk (below_step HB.out hb); clear HB; have HB := n0_; clear n0_ hb r0 r1 r2 r3 r4 r5; obtain ⟨r0, r1, r2, r3, r4, r5⟩ := hS.out _ HB.out) | ((with_reducible refine gate_callee (f := 7) rfl ?_); refine goesL_ (some 80) rfl rfl Tryd.func7 (by kernel_rfl) rfl #[] rfl (by (try simp only [List.map_toArray, List.map_cons, List.map_nil]); first | done | rfl) ?_; (with_reducible refine (runs_calls _ (Val.tb HTAB (below_step HB0.out HB.out))).mono ?_); rintro e w9 ⟨rfl, hb⟩; refine ⟨_, rfl, ?_⟩; have n0_ := Aside0.mk (below_step HB.out hb); clear HB; have HB := n0_; clear n0_ hb r0 r1 r2 r3 r4 r5; obtain ⟨r0, r1, r2, r3, r4, r5⟩ := hS.out _ HB.out) | (with_reducible refine (runs_calls _ (Val.tb HTAB (below_step HB0.out HB.out))).mono ?_; rintro e w9 ⟨rfl, hb⟩; have n0_ := Aside0.mk (below_step HB.out hb); clear HB; have HB := n0_; clear n0_ hb r0 r1 r2 r3 r4 r5; obtain ⟨r0, r1, r2, r3, r4, r5⟩ := hS.out _ HB.out))
            have LAB : Aside0 (value_Less.f true a1 A true b1 B = some (Op.bytesLess A.toList B.toList)) := ⟨rfl⟩
            have EQ0 : ∀ w, (binOp .eql 51 (.agg #[.bool true, .int .i64 a1, .string A]) (.agg #[.bool true, .int .i64 b1, .string B])).run Tryd.prog w = .ok (.bool E) w := fun w => by rw [eq51, EQ.out]
            have ES0 := ES.out
            have EU0 := EU.out
            generalize hL : (Op.bytesLess A.toList B.toList) = LL at LAB ⊢
            as_aux_lemma =>
              obtain ⟨Wc, hWc⟩ : ∃ Wc, Wc = w9 := ⟨_, rfl⟩
              subst hWc
              refine start_ (n := 25) (S := fun w' => w'.cell? ⟨g0, 0, none⟩ = some (.bool true) ∧ w'.cell? ⟨g0, 1, none⟩ = some (.int .i64 a1) ∧ w'.cell? ⟨g0, 2, none⟩ = some (.string A) ∧ w'.cell? ⟨g1, 0, none⟩ = some (.bool true) ∧ w'.cell? ⟨g1, 1, none⟩ = some (.int .i64 b1) ∧ w'.cell? ⟨g1, 2, none⟩ = some (.string B)) (ds := []) #[false, false, false, false, false, false, false, false, false, false, false, false, false, false, false, false, false, false, false, false, false, false, false, false, false] (by kernel_rfl) rfl rfl (hS.out _ (below_drew1 HB.out)) (fun hHeld => ?_)
              have hb0 : Below W1.heap.size W1 Wc.drew := below_drew1 HB.out
              generalize Wc.drew = V0 at hb0 hHeld ⊢
              refine take_ (i := 0) (N := (some 81)) (v := ?_) (a' := ?_) #[true, false, false, false, false, false, false, false, false, false, false, false, false, false, false, false, false, false, false, false, false, false, false, false, false] rfl rfl (by kernel_rfl) (fun _ _ _ h => h) (Or.inl ⟨by rfl, ?_⟩) hHeld ?_ ?_
              rotate_left
              · rintro w' ⟨s0, s1, s2, s3, s4, s5⟩
                go_simp
                with_reducible rfl
              rotate_left
              · simp only [Act.put, List.setIfInBounds_toArray, List.set_cons_zero, List.set_cons_succ, i64_w, i32_w]
                rfl
              refine take_ (i := 1) (N := (some 82)) (v := ?_) (a' := ?_) #[true, true, false, false, false, false, false, false, false, false, false, false, false, false, false, false, false, false, false, false, false, false, false, false, false] rfl rfl (by kernel_rfl) (fun _ _ _ h => h) (Or.inl ⟨by rfl, ?_⟩) hHeld ?_ ?_
              rotate_left
              · rintro w' ⟨s0, s1, s2, s3, s4, s5⟩
                go_simp
                with_reducible rfl
              rotate_left
              · simp only [Act.put, List.setIfInBounds_toArray, List.set_cons_zero, List.set_cons_succ, i64_w, i32_w]
                rfl
              refine pure_ (i := 3) (N := (some 84)) (v := ?_) (a' := ?_) #[true, true, false, true, false, false, false, false, false, false, false, false, false, false, false, false, false, false, false, false, false, false, false, false, false] rfl rfl (by kernel_rfl) (fun _ _ _ h => h) (Or.inl ⟨by rfl, ?_⟩) ?_ ?_
              rotate_left
              · intro w'
                go_simp
                with_reducible rfl
              rotate_left
              · simp only [Act.put, List.setIfInBounds_toArray, List.set_cons_zero, List.set_cons_succ, i64_w, i32_w]
                rfl
              refine one_ (i := 2) (N := (some 83)) #[true, true, true, true, false, false, false, false, false, false, false, false, false, false, false, false, false, false, false, false, false, false, false, false, false] rfl rfl (by kernel_rfl) (by decide) (fun K hK => ?_)
              refine goes_ Tryd.func26 (by kernel_rfl) rfl #[.agg #[.bool true, .int .i64 a1, .string A], .agg #[.bool true, .int .i64 b1, .string B]] (by rfl) rfl rfl (by (try simp only [List.map_toArray, List.map_cons, List.map_nil]); first | done | rfl) ?_
              refine (value_Less.calls true a1 A true b1 B LL _ LAB.out).mono ?_
              rintro e V1 ⟨rfl, hbc⟩
              refine ⟨_, rfl, ?_⟩
              have hb1 : Below W1.heap.size W1 V1 := below_step hb0 hbc
              refine hK.out _ _ (hS.out _ hb1) (fun hHeld => ?_)
              clear hK K hbc
              refine norm_ (a' := ?_) ?_ ?_
              rotate_left
              · show Act.put _ (some 83) _ = _
                simp only [Act.put, List.setIfInBounds_toArray, List.set_cons_zero, List.set_cons_succ, i64_w, i32_w]
                rfl
              refine pure_ (i := 4) (N := (some 85)) (v := ?_) (a' := ?_) #[true, true, true, true, true, false, false, false, false, false, false, false, false, false, false, false, false, false, false, false, false, false, false, false, false] rfl rfl (by kernel_rfl) (fun _ _ _ h => h) (Or.inl ⟨by rfl, ?_⟩) ?_ ?_
              rotate_left
              · intro w'
                go_simp
                with_reducible rfl
              rotate_left
              · simp only [Act.put, List.setIfInBounds_toArray, List.set_cons_zero, List.set_cons_succ, i64_w, i32_w]
                rfl
              refine pure_ (i := 5) (N := (some 86)) (v := ?_) (a' := ?_) #[true, true, true, true, true, true, false, false, false, false, false, false, false, false, false, false, false, false, false, false, false, false, false, false, false] rfl rfl (by kernel_rfl) (fun _ _ _ h => h) (Or.inl ⟨by rfl, ?_⟩) ?_ ?_
              rotate_left
              · intro w'
                go_simp
                with_reducible rfl
              rotate_left
              · simp only [Act.put, List.setIfInBounds_toArray, List.set_cons_zero, List.set_cons_succ, i64_w, i32_w]
                rfl
              refine take_ (i := 6) (N := (some 87)) (v := ?_) (a' := ?_) #[true, true, true, true, true, true, true, false, false, false, false, false, false, false, false, false, false, false, false, false, false, false, false, false, false] rfl rfl (by kernel_rfl) (fun _ _ _ h => h) (Or.inl ⟨by rfl, ?_⟩) hHeld ?_ ?_
              rotate_left
              · rintro w' ⟨s0, s1, s2, s3, s4, s5⟩
                go_simp
                with_reducible rfl
              rotate_left
              · simp only [Act.put, List.setIfInBounds_toArray, List.set_cons_zero, List.set_cons_succ, i64_w, i32_w]
                rfl
              refine take_ (i := 8) (N := (some 89)) (v := ?_) (a' := ?_) #[true, true, true, true, true, true, true, false, true, false, false, false, false, false, false, false, false, false, false, false, false, false, false, false, false] rfl rfl (by kernel_rfl) (fun _ _ _ h => h) (Or.inl ⟨by rfl, ?_⟩) hHeld ?_ ?_
              rotate_left
              · rintro w' ⟨s0, s1, s2, s3, s4, s5⟩
                go_simp
                with_reducible rfl
              rotate_left
              · simp only [Act.put, List.setIfInBounds_toArray, List.set_cons_zero, List.set_cons_succ, i64_w, i32_w]
                rfl
              refine take_ (i := 11) (N := (some 92)) (v := ?_) (a' := ?_) #[true, true, true, true, true, true, true, false, true, false, false, true, false, false, false, false, false, false, false, false, false, false, false, false, false] rfl rfl (by kernel_rfl) (fun _ _ _ h => h) (Or.inl ⟨by rfl, ?_⟩) hHeld ?_ ?_
              rotate_left
              · rintro w' ⟨s0, s1, s2, s3, s4, s5⟩
                go_simp
                with_reducible rfl
              rotate_left
              · simp only [Act.put, List.setIfInBounds_toArray, List.set_cons_zero, List.set_cons_succ, i64_w, i32_w]
                rfl
              refine take_ (i := 12) (N := (some 93)) (v := ?_) (a' := ?_) #[true, true, true, true, true, true, true, false, true, false, false, true, true, false, false, false, false, false, false, false, false, false, false, false, false] rfl rfl (by kernel_rfl) (fun _ _ _ h => h) (Or.inl ⟨by rfl, ?_⟩) hHeld ?_ ?_
              rotate_left
              · rintro w' ⟨s0, s1, s2, s3, s4, s5⟩
                go_simp
                with_reducible rfl
              rotate_left
              · simp only [Act.put, List.setIfInBounds_toArray, List.set_cons_zero, List.set_cons_succ, i64_w, i32_w]
                rfl
              refine pure_ (i := 13) (N := (some 94)) (v := ?_) (a' := ?_) #[true, true, true, true, true, true, true, false, true, false, false, true, true, true, false, false, false, false, false, false, false, false, false, false, false] rfl rfl (by kernel_rfl) (fun _ _ _ h => h) (Or.inl ⟨by rfl, ?_⟩) ?_ ?_
              rotate_left
              · intro w'
                go_simp
                with_reducible rfl
              rotate_left
              · simp only [Act.put, List.setIfInBounds_toArray, List.set_cons_zero, List.set_cons_succ, i64_w, i32_w]
                rfl
              refine one_ (i := 7) (N := (some 88)) #[true, true, true, true, true, true, true, true, true, false, false, true, true, true, false, false, false, false, false, false, false, false, false, false, false] rfl rfl (by kernel_rfl) (by decide) (fun K hK => ?_)
              refine goes_ Tryd.func29 (by kernel_rfl) rfl #[.agg #[.bool true, .int .i64 a1, .string A]] (by rfl) rfl rfl (by (try simp only [List.map_toArray, List.map_cons, List.map_nil]); first | done | rfl) ?_
              refine (value_Say.calls true a1 A u _ (Val.tb HTAB (below_step HB0.out hb1)) SA.out).mono ?_
              rintro e V2 ⟨rfl, hbc⟩
              refine ⟨_, rfl, ?_⟩
              have hb2 : Below W1.heap.size W1 V2 := below_step hb1 hbc
              refine hK.out _ _ (hS.out _ hb2) (fun hHeld => ?_)
              clear hK K hbc
              refine norm_ (a' := ?_) ?_ ?_
              rotate_left
              · show Act.put _ (some 88) _ = _
                simp only [Act.put, List.setIfInBounds_toArray, List.set_cons_zero, List.set_cons_succ, i64_w, i32_w]
                rfl
              refine one_ (i := 9) (N := (some 90)) #[true, true, true, true, true, true, true, true, true, true, false, true, true, true, false, false, false, false, false, false, false, false, false, false, false] rfl rfl (by kernel_rfl) (by decide) (fun K hK => ?_)
              refine goes_ Tryd.func29 (by kernel_rfl) rfl #[.agg #[.bool true, .int .i64 b1, .string B]] (by rfl) rfl rfl (by (try simp only [List.map_toArray, List.map_cons, List.map_nil]); first | done | rfl) ?_
              refine (value_Say.calls true b1 B v _ (Val.tb HTAB (below_step HB0.out hb2)) SB.out).mono ?_
              rintro e V3 ⟨rfl, hbc⟩
              refine ⟨_, rfl, ?_⟩
              have hb3 : Below W1.heap.size W1 V3 := below_step hb2 hbc
              refine hK.out _ _ (hS.out _ hb3) (fun hHeld => ?_)
              clear hK K hbc
              refine norm_ (a' := ?_) ?_ ?_
              rotate_left
              · show Act.put _ (some 90) _ = _
                simp only [Act.put, List.setIfInBounds_toArray, List.set_cons_zero, List.set_cons_succ, i64_w, i32_w]
                rfl
              refine pure_ (i := 10) (N := (some 91)) (v := ?_) (a' := ?_) #[true, true, true, true, true, true, true, true, true, true, true, true, true, true, false, false, false, false, false, false, false, false, false, false, false] rfl rfl (by kernel_rfl) (fun _ _ _ h => h) (Or.inl ⟨by rfl, ?_⟩) ?_ ?_
              rotate_left
              · intro w'
                go_simp
                with_reducible rfl
              rotate_left
              · simp only [Act.put, List.setIfInBounds_toArray, List.set_cons_zero, List.set_cons_succ, i64_w, i32_w]
                rfl
              refine pure_ (i := 14) (N := (some 95)) (v := ?_) (a' := ?_) #[true, true, true, true, true, true, true, true, true, true, true, true, true, true, true, false, false, false, false, false, false, false, false, false, false] rfl rfl (by kernel_rfl) (fun _ _ _ h => h) (Or.inl ⟨by rfl, ?_⟩) ?_ ?_
              rotate_left
              · intro w'
                go_simp
                with_reducible rfl
              rotate_left
              · simp only [Act.put, List.setIfInBounds_toArray, List.set_cons_zero, List.set_cons_succ, i64_w, i32_w]
                rfl
              refine pure_ (i := 15) (N := (some 96)) (v := ?_) (a' := ?_) #[true, true, true, true, true, true, true, true, true, true, true, true, true, true, true, true, false, false, false, false, false, false, false, false, false] rfl rfl (by kernel_rfl) (fun _ _ _ h => h) (Or.inl ⟨by rfl, ?_⟩) ?_ ?_
              rotate_left
              · intro w'
                go_simp
                with_reducible rfl
              rotate_left
              · simp only [Act.put, List.setIfInBounds_toArray, List.set_cons_zero, List.set_cons_succ, i64_w, i32_w]
                rfl
              refine pure_ (i := 16) (N := (some 97)) (v := ?_) (a' := ?_) #[true, true, true, true, true, true, true, true, true, true, true, true, true, true, true, true, true, false, false, false, false, false, false, false, false] rfl rfl (by kernel_rfl) (fun _ _ _ h => h) (Or.inl ⟨by rfl, ?_⟩) ?_ ?_
              rotate_left
              · intro w'
                go_simp
                with_reducible rfl
              rotate_left
              · simp only [Act.put, List.setIfInBounds_toArray, List.set_cons_zero, List.set_cons_succ, i64_w, i32_w]
                rfl
              refine take_ (i := 17) (N := (some 98)) (v := ?_) (a' := ?_) #[true, true, true, true, true, true, true, true, true, true, true, true, true, true, true, true, true, true, false, false, false, false, false, false, false] rfl rfl (by kernel_rfl) (fun _ _ _ h => h) (Or.inl ⟨by rfl, ?_⟩) hHeld ?_ ?_
              rotate_left
              · rintro w' ⟨s0, s1, s2, s3, s4, s5⟩
                go_simp
                with_reducible rfl
              rotate_left
              · simp only [Act.put, List.setIfInBounds_toArray, List.set_cons_zero, List.set_cons_succ, i64_w, i32_w]
                rfl
              refine one_ (i := 18) (N := (some 99)) #[true, true, true, true, true, true, true, true, true, true, true, true, true, true, true, true, true, true, true, false, false, false, false, false, false] rfl rfl (by kernel_rfl) (by decide) (fun K hK => ?_)
              refine goes_ Tryd.func29 (by kernel_rfl) rfl #[.agg #[.bool true, .int .i64 a1, .string A]] (by rfl) rfl rfl (by (try simp only [List.map_toArray, List.map_cons, List.map_nil]); first | done | rfl) ?_
              refine (value_Say.calls true a1 A u _ (Val.tb HTAB (below_step HB0.out hb3)) SA.out).mono ?_
              rintro e V4 ⟨rfl, hbc⟩
              refine ⟨_, rfl, ?_⟩
              have hb4 : Below W1.heap.size W1 V4 := below_step hb3 hbc
              refine hK.out _ _ (hS.out _ hb4) (fun hHeld => ?_)
              clear hK K hbc
              refine norm_ (a' := ?_) ?_ ?_
              rotate_left
              · show Act.put _ (some 99) _ = _
                simp only [Act.put, List.setIfInBounds_toArray, List.set_cons_zero, List.set_cons_succ, i64_w, i32_w]
                rfl
              refine pure_ (i := 19) (N := (some 100)) (v := ?_) (a' := ?_) #[true, true, true, true, true, true, true, true, true, true, true, true, true, true, true, true, true, true, true, true, false, false, false, false, false] rfl rfl (by kernel_rfl) (fun _ _ _ h => h) (Or.inl ⟨by rfl, ?_⟩) ?_ ?_
              rotate_left
              · intro w'
                go_simp
                with_reducible rfl
              rotate_left
              · simp only [Act.put, List.setIfInBounds_toArray, List.set_cons_zero, List.set_cons_succ, i64_w, i32_w]
                rfl
              refine pure_ (i := 20) (N := (some 101)) (v := ?_) (a' := ?_) #[true, true, true, true, true, true, true, true, true, true, true, true, true, true, true, true, true, true, true, true, true, false, false, false, false] rfl rfl (by kernel_rfl) (fun _ _ _ h => h) (Or.inl ⟨by rfl, ?_⟩) ?_ ?_
              rotate_left
              · intro w'
                go_simp
                with_reducible rfl
              rotate_left
              · simp only [Act.put, List.setIfInBounds_toArray, List.set_cons_zero, List.set_cons_succ, i64_w, i32_w]
                rfl
              refine pure_ (i := 21) (N := (some 102)) (v := ?_) (a' := ?_) #[true, true, true, true, true, true, true, true, true, true, true, true, true, true, true, true, true, true, true, true, true, true, false, false, false] rfl rfl (by kernel_rfl) (fun _ _ _ h => h) (Or.inl ⟨by rfl, ?_⟩) ?_ ?_
              rotate_left
              · intro w'
                go_simp
                with_reducible rfl
              rotate_left
              · simp only [Act.put, List.setIfInBounds_toArray, List.set_cons_zero, List.set_cons_succ, i64_w, i32_w]
                rfl
              refine one_ (i := 22) (N := (some 103)) #[true, true, true, true, true, true, true, true, true, true, true, true, true, true, true, true, true, true, true, true, true, true, true, false, false] rfl rfl (by kernel_rfl) (by decide) (fun K hK => ?_)
              refine goes_ Tryd.func7 (by kernel_rfl) rfl #[] (by rfl) rfl rfl (by (try simp only [List.map_toArray, List.map_cons, List.map_nil]); first | done | rfl) ?_
              refine (runs_calls _ (Val.tb HTAB (below_step HB0.out hb4))).mono ?_
              rintro e V5 ⟨rfl, hbc⟩
              refine ⟨_, rfl, ?_⟩
              have hb5 : Below W1.heap.size W1 V5 := below_step hb4 hbc
              refine hK.out _ _ (hS.out _ hb5) (fun hHeld => ?_)
              clear hK K hbc
              refine norm_ (a' := ?_) ?_ ?_
              rotate_left
              · show Act.put _ (some 103) _ = _
                simp only [Act.put, List.setIfInBounds_toArray, List.set_cons_zero, List.set_cons_succ, i64_w, i32_w]
                rfl
              refine pure_ (i := 23) (N := (some 104)) (v := ?_) (a' := ?_) #[true, true, true, true, true, true, true, true, true, true, true, true, true, true, true, true, true, true, true, true, true, true, true, true, false] rfl rfl (by kernel_rfl) (fun _ _ _ h => h) (Or.inl ⟨by rfl, ?_⟩) ?_ ?_
              rotate_left
              · intro w'
                go_simp
                with_reducible rfl
              rotate_left
              · simp only [Act.put, List.setIfInBounds_toArray, List.set_cons_zero, List.set_cons_succ, i64_w, i32_w]
                rfl
              refine pure_ (i := 24) (N := (some 8)) (v := ?_) (a' := ?_) #[true, true, true, true, true, true, true, true, true, true, true, true, true, true, true, true, true, true, true, true, true, true, true, true, true] rfl rfl (by kernel_rfl) (fun _ _ _ h => h) (Or.inl ⟨by rfl, ?_⟩) ?_ ?_
              rotate_left
              · intro w'
                go_simp
                with_reducible rfl
              rotate_left
              · simp only [Act.put, List.setIfInBounds_toArray, List.set_cons_zero, List.set_cons_succ, i64_w, i32_w]
                rfl
              refine done_ (by kernel_rfl) ?_
              have HF := Aside0.mk (below_step HB0.out hb5)
              go_wp2
              go_ret
              exact ⟨rfl, HF.out⟩
end Go.Proofs.YtpkdfjlkhfjlcaaDoor.MVal

