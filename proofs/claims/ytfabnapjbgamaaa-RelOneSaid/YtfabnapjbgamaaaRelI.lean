import Derived.Test.YtfabnapjbgamaaaRelJ
namespace Go.Proofs.Ytfabnapjbgamaaa.MRelTrue
open Go.RowKit Go.Lib Go.Proofs.YtfabnapjbgamaaaW.PrintWords Go.Proofs.YtfabnapjbgamaaaW.PrintLast Go.Proofs.YtfabnapjbgamaaaW.PrintMore
set_option linter.unusedVariables false
set_option linter.unusedSimpArgs false
set_option maxHeartbeats 16000000 in
set_option maxRecDepth 1000000 in
theorem one_calls (i j v : Int) (a b : S23) (vv : S40) (w : World) (hca : broadsidekeep_Constraint.f (⟨#[97]⟩ : ByteArray) i = some (a.f0, a.f1, a.f2, a.f3, a.f4)) (hcb : broadsidekeep_Constraint.f (⟨#[97]⟩ : ByteArray) j = some (b.f0, b.f1, b.f2, b.f3, b.f4))
    (hv : broadsidekeep_Value.f v = some (vv.f0, vv.f1, vv.f2)) (HA HB : S40 → Bool) (hA : ∀ x : S40, rel_Match.f 5 [a] [⟨(⟨#[97]⟩ : ByteArray), x⟩] = some (HA x)) (hB : ∀ x : S40, rel_Match.f 5 [b] [⟨(⟨#[97]⟩ : ByteArray), x⟩] = some (HB x))
    (hH : ∀ x : S40, broadsideref1_Holds.f a.f0 a.f1 a.f2 a.f3 a.f4 x.f0 x.f1 x.f2 = some (HA x)) (hN : rel_Match.f 5 [a] [⟨(⟨#[98]⟩ : ByteArray), vv⟩] = some false)
    (hM : rel_Meets.f 10 [a] [b] = some (mts HA HB (nums 25 ++ texts40 13))) (hC : rel_Covers.f [a] [b] = some (cvs HA HB (nums 25 ++ texts40 13))) :
    Calls Try.prog 6 #[.int .i64 i, .int .i64 j, .int .i64 v] w fun e w' => e = .returned (.bool true) ∧ Below w.heap.size w w' := by
  have hu23 := Try.underlying23
  have hu40 := Try.underlying40
  have hu42 := Try.underlying42
  go_enter Try.func6, Try.ntmps6
  go_wp2_with (first | (go_at_call 20; (with_reducible refine (broadsidekeep_Constraint.calls (⟨#[97]⟩ : ByteArray) i a.f0 a.f1 a.f2 a.f3 a.f4 _ hca).mono ?_); rintro e w1 ⟨rfl, hb1⟩) | (go_at_call 20; (with_reducible refine (broadsidekeep_Constraint.calls (⟨#[97]⟩ : ByteArray) j b.f0 b.f1 b.f2 b.f3 b.f4 _ hcb).mono ?_); rintro e w2 ⟨rfl, hb2⟩) | go_in)
  have hg7 : ((w2.alloc (.cells #[.string a.f0, .int .i64 a.f1, .int .i64 a.f2, .int .i64 a.f3, .string a.f4] 23)).alloc (.cells #[.string b.f0, .int .i64 b.f1, .int .i64 b.f2, .int .i64 b.f3, .string b.f4] 23)).heap[w2.heap.size]? = some (.cells #[.string a.f0, .int .i64 a.f1, .int .i64 a.f2, .int .i64 a.f3, .string a.f4] 23 (0, 0)) := pred_Both.up (heap_alloc_new w2 _) _
  have hg8 : ((w2.alloc (.cells #[.string a.f0, .int .i64 a.f1, .int .i64 a.f2, .int .i64 a.f3, .string a.f4] 23)).alloc (.cells #[.string b.f0, .int .i64 b.f1, .int .i64 b.f2, .int .i64 b.f3, .string b.f4] 23)).heap[w2.heap.size + 1]? = some (.cells #[.string b.f0, .int .i64 b.f1, .int .i64 b.f2, .int .i64 b.f3, .string b.f4] 23 (0, 0)) := pred_Both.top _ _ (by simp)
  have hBW2 : Below w.heap.size w ((w2.alloc (.cells #[.string a.f0, .int .i64 a.f1, .int .i64 a.f2, .int .i64 a.f3, .string a.f4] 23)).alloc (.cells #[.string b.f0, .int .i64 b.f1, .int .i64 b.f2, .int .i64 b.f3, .string b.f4] 23)) := below_alloc (below_alloc (below_step hb1 hb2) _) _
  generalize (w2.alloc (.cells #[.string a.f0, .int .i64 a.f1, .int .i64 a.f2, .int .i64 a.f3, .string a.f4] 23)).alloc (.cells #[.string b.f0, .int .i64 b.f1, .int .i64 b.f2, .int .i64 b.f3, .string b.f4] 23) = W2 at hg7 hg8 hBW2 ⊢
  generalize w2.heap.size + 1 = g8 at hg8 ⊢
  generalize w2.heap.size = g7 at hg7 ⊢
  clear hb1 hb2
  have hS2 : ∀ w', Below W2.heap.size W2 w' → w'.cell? ⟨g7, 0, none⟩ = some (.string a.f0) ∧ w'.cell? ⟨g7, 1, none⟩ = some (.int .i64 a.f1) ∧ w'.cell? ⟨g7, 2, none⟩ = some (.int .i64 a.f2) ∧ w'.cell? ⟨g7, 3, none⟩ = some (.int .i64 a.f3) ∧ w'.cell? ⟨g7, 4, none⟩ = some (.string a.f4) ∧ w'.cell? ⟨g8, 0, none⟩ = some (.string b.f0) ∧ w'.cell? ⟨g8, 1, none⟩ = some (.int .i64 b.f1) ∧ w'.cell? ⟨g8, 2, none⟩ = some (.int .i64 b.f2) ∧ w'.cell? ⟨g8, 3, none⟩ = some (.int .i64 b.f3) ∧ w'.cell? ⟨g8, 4, none⟩ = some (.string b.f4) := fun w' hW => by
    have h7 := (hW.block g7 (blk_lt hg7)).trans hg7
    have h8 := (hW.block g8 (blk_lt hg8)).trans hg8
    exact ⟨(blk_cell h7 0).trans rfl, (blk_cell h7 1).trans rfl, (blk_cell h7 2).trans rfl, (blk_cell h7 3).trans rfl, (blk_cell h7 4).trans rfl, (blk_cell h8 0).trans rfl, (blk_cell h8 1).trans rfl, (blk_cell h8 2).trans rfl, (blk_cell h8 3).trans rfl, (blk_cell h8 4).trans rfl⟩
  refine start_ (n := 6) (S := fun w' => w'.cell? ⟨g7, 0, none⟩ = some (.string a.f0) ∧ w'.cell? ⟨g7, 1, none⟩ = some (.int .i64 a.f1) ∧ w'.cell? ⟨g7, 2, none⟩ = some (.int .i64 a.f2) ∧ w'.cell? ⟨g7, 3, none⟩ = some (.int .i64 a.f3) ∧ w'.cell? ⟨g7, 4, none⟩ = some (.string a.f4) ∧ w'.cell? ⟨g8, 0, none⟩ = some (.string b.f0) ∧ w'.cell? ⟨g8, 1, none⟩ = some (.int .i64 b.f1) ∧ w'.cell? ⟨g8, 2, none⟩ = some (.int .i64 b.f2) ∧ w'.cell? ⟨g8, 3, none⟩ = some (.int .i64 b.f3) ∧ w'.cell? ⟨g8, 4, none⟩ = some (.string b.f4)) (ds := []) #[false, false, false, false, false, false] (by kernel_rfl) rfl rfl (hS2 _ (below_drew1 (Below.refl _ _))) (fun hHeld => ?_)
  have hW0 : Below W2.heap.size W2 W2.drew := below_drew1 (Below.refl _ _)
  have hSz := fun (W : World) (hW : Below W2.drew.heap.size W2.drew W) => hS2 W (below_step hW0 hW)
  generalize W2.drew = W0 at hW0 hHeld hSz ⊢
  refine take_ (i := 0) (N := some 26) (v := ?_) (a' := ?_) #[true, false, false, false, false, false] rfl rfl (by kernel_rfl) (fun _ _ _ h => h) (Or.inl ⟨by rfl, ?_⟩) hHeld ?_ ?_
  rotate_left
  · rintro w' ⟨s0, s1, s2, s3, s4, s5, s6, s7, s8, s9⟩
    go_simp
    with_reducible rfl
  rotate_left
  · simp only [Act.put, List.setIfInBounds_toArray, List.set_cons_zero, List.set_cons_succ, i64_w, i32_w]
    rfl
  refine take_ (i := 2) (N := some 28) (v := ?_) (a' := ?_) #[true, false, true, false, false, false] rfl rfl (by kernel_rfl) (fun _ _ _ h => h) (Or.inl ⟨by rfl, ?_⟩) hHeld ?_ ?_
  rotate_left
  · rintro w' ⟨s0, s1, s2, s3, s4, s5, s6, s7, s8, s9⟩
    go_simp
    with_reducible rfl
  rotate_left
  · simp only [Act.put, List.setIfInBounds_toArray, List.set_cons_zero, List.set_cons_succ, i64_w, i32_w]
    rfl
  refine join_ (σ := Nat × Nat) 1 #[true, true, true, true, true, false] (fun s => [(27, .slice (some ⟨s.1, 0, none⟩) 1 1), (29, .slice (some ⟨s.2, 0, none⟩) 1 1), (9, .slice (some ⟨s.1, 0, none⟩) 1 1)]) (fun s W => Below W0.heap.size W0 W ∧ W.heap[s.1]? = some (.cells #[.string a.f0, .int .i64 a.f1, .int .i64 a.f2, .int .i64 a.f3, .string a.f4] 23 (0, 0)) ∧ W.heap[s.2]? = some (.cells #[.string b.f0, .int .i64 b.f1, .int .i64 b.f2, .int .i64 b.f3, .string b.f4] 23 (0, 0))) ?_ ?_
  rotate_left
  · intro hJ
    refine two_ (i := 1) (j := 3) (Ni := some 27) (Nj := some 29) #[true, true, true, false, false, false] #[true, false, true, true, false, false] rfl rfl rfl rfl (by kernel_rfl) (by decide) (by decide) (fun K hK => ?_) (fun K hK => ?_)
    · skip
      refine value_ (w1 := W0.alloc (.cells #[.string a.f0, .int .i64 a.f1, .int .i64 a.f2, .int .i64 a.f3, .string a.f4] 23)) (v := .slice (some ⟨W0.heap.size, 0, none⟩) 1 1) (by rfl) rfl (by go_simp) ?_
      refine hK.out _ _ (hSz _ (below_alloc (Below.refl _ _) _)) (fun hHeld => ?_)
      clear hK K
      refine norm_ (a' := ?_) ?_ ?_
      rotate_left
      · show Act.put _ (some 27) _ = _
        simp only [Act.put, List.setIfInBounds_toArray, List.set_cons_zero, List.set_cons_succ, i64_w, i32_w]
        rfl
      refine pure_ (i := 4) (N := some 9) (v := ?_) (a' := ?_) #[true, true, true, false, true, false] rfl rfl (by kernel_rfl) (fun _ _ _ h => h) (Or.inl ⟨by rfl, ?_⟩) ?_ ?_
      rotate_left
      · intro w'
        go_simp
        with_reducible rfl
      rotate_left
      · simp only [Act.put, List.setIfInBounds_toArray, List.set_cons_zero, List.set_cons_succ, i64_w, i32_w]
        rfl
      refine one_ (i := 3) (N := some 29) #[true, true, true, true, true, false] rfl rfl (by kernel_rfl) (by decide) (fun K hK => ?_)
      refine value_ (w1 := (W0.alloc (.cells #[.string a.f0, .int .i64 a.f1, .int .i64 a.f2, .int .i64 a.f3, .string a.f4] 23)).alloc (.cells #[.string b.f0, .int .i64 b.f1, .int .i64 b.f2, .int .i64 b.f3, .string b.f4] 23)) (v := .slice (some ⟨W0.heap.size + 1, 0, none⟩) 1 1) (by rfl) rfl (by go_simp) ?_
      refine hK.out _ _ (hSz _ (below_alloc (below_alloc (Below.refl _ _) _) _)) (fun hHeld => ?_)
      clear hK K
      refine norm_ (a' := ?_) ?_ ?_
      rotate_left
      · show Act.put _ (some 29) _ = _
        simp only [Act.put, List.setIfInBounds_toArray, List.set_cons_zero, List.set_cons_succ, i64_w, i32_w]
        rfl
      have h := hJ (W0.heap.size, W0.heap.size + 1) _ ⟨below_alloc (below_alloc (Below.refl _ _) _) _, pred_Both.up (heap_alloc_new W0 _) _, pred_Both.top _ _ (by simp)⟩
      simp only [putAll, Act.put, List.setIfInBounds_toArray, List.set_cons_zero, List.set_cons_succ] at h
      exact h
    · skip
      refine value_ (w1 := W0.alloc (.cells #[.string b.f0, .int .i64 b.f1, .int .i64 b.f2, .int .i64 b.f3, .string b.f4] 23)) (v := .slice (some ⟨W0.heap.size, 0, none⟩) 1 1) (by rfl) rfl (by go_simp) ?_
      refine hK.out _ _ (hSz _ (below_alloc (Below.refl _ _) _)) (fun hHeld => ?_)
      clear hK K
      refine norm_ (a' := ?_) ?_ ?_
      rotate_left
      · show Act.put _ (some 29) _ = _
        simp only [Act.put, List.setIfInBounds_toArray, List.set_cons_zero, List.set_cons_succ, i64_w, i32_w]
        rfl
      refine one_ (i := 1) (N := some 27) #[true, true, true, true, false, false] rfl rfl (by kernel_rfl) (by decide) (fun K hK => ?_)
      refine value_ (w1 := (W0.alloc (.cells #[.string b.f0, .int .i64 b.f1, .int .i64 b.f2, .int .i64 b.f3, .string b.f4] 23)).alloc (.cells #[.string a.f0, .int .i64 a.f1, .int .i64 a.f2, .int .i64 a.f3, .string a.f4] 23)) (v := .slice (some ⟨W0.heap.size + 1, 0, none⟩) 1 1) (by rfl) rfl (by go_simp) ?_
      refine hK.out _ _ (hSz _ (below_alloc (below_alloc (Below.refl _ _) _) _)) (fun hHeld => ?_)
      clear hK K
      refine norm_ (a' := ?_) ?_ ?_
      rotate_left
      · show Act.put _ (some 27) _ = _
        simp only [Act.put, List.setIfInBounds_toArray, List.set_cons_zero, List.set_cons_succ, i64_w, i32_w]
        rfl
      refine pure_ (i := 4) (N := some 9) (v := ?_) (a' := ?_) #[true, true, true, true, true, false] rfl rfl (by kernel_rfl) (fun _ _ _ h => h) (Or.inl ⟨by rfl, ?_⟩) ?_ ?_
      rotate_left
      · intro w'
        go_simp
        with_reducible rfl
      rotate_left
      · simp only [Act.put, List.setIfInBounds_toArray, List.set_cons_zero, List.set_cons_succ, i64_w, i32_w]
        rfl
      have h := hJ (W0.heap.size + 1, W0.heap.size) _ ⟨below_alloc (below_alloc (Below.refl _ _) _) _, pred_Both.top _ _ (by simp), pred_Both.up (heap_alloc_new W0 _) _⟩
      simp only [putAll, Act.put, List.setIfInBounds_toArray, List.set_cons_zero, List.set_cons_succ] at h
      exact h
  rintro ⟨g9, g10⟩ W1 ⟨hb1_, hg9, hg10⟩
  refine norm_ (a' := ?_) ?_ ?_
  rotate_left
  · simp only [putAll, Act.put, List.setIfInBounds_toArray, List.set_cons_zero, List.set_cons_succ]
    rfl
  refine pure_ (i := 5) (N := some 10) (v := ?_) (a' := ?_) #[true, true, true, true, true, true] rfl rfl (by kernel_rfl) (fun _ _ _ h => h) (Or.inl ⟨by rfl, ?_⟩) ?_ ?_
  rotate_left
  · intro w'
    go_simp
    with_reducible rfl
  rotate_left
  · simp only [Act.put, List.setIfInBounds_toArray, List.set_cons_zero, List.set_cons_succ, i64_w, i32_w]
    rfl
  refine done_ (by kernel_rfl) ?_
  have hB1 : Below W2.heap.size W2 W1 := below_step hW0 hb1_
  have hg71 := (hB1.block g7 (blk_lt hg7)).trans hg7
  have hBW1 : Below w.heap.size w W1 := below_step hBW2 hB1
  clear hS2 hHeld hSz hW0 hb1_ hB1 hg7 hg8 hBW2
  go_wp2
  go_loopw [11, 12, 13] (fun s11 s12 s13 wr => ∃ k : Nat, k ≤ 25 ∧ s13 = .int .i64 ((k : Int) - 2) ∧ s11 = .bool (mts HA HB (nums k)) ∧ s12 = .bool (cvs HA HB (nums k)) ∧ Aside0 (Below W1.heap.size W1 wr)) (fun _ _ s13 _ => 25 - (intOf s13 + 2).toNat)
  case atStart => exact ⟨0, by omega, rfl, rfl, rfl, ⟨Below.refl _ _⟩⟩
  case round =>
    obtain ⟨k, hk, rfl, rfl, rfl, S1⟩ := hrel
    by_cases hlt : (k : Int) - 2 ≤ 22
    · have hMA := hA (num40 ((k : Int) - 2))
      have hMB := hB (num40 ((k : Int) - 2))
      have hHH := hH (num40 ((k : Int) - 2))
      have hm' := mts_snoc HA HB (nums k) (num40 ((k : Int) - 2))
      have hc' := cvs_snoc HA HB (nums k) (num40 ((k : Int) - 2))
      rw [← nums_succ] at hm' hc'
      have HM := Aside0.mk hm'
      have HC := Aside0.mk hc'
      clear hm' hc'
      generalize HA (num40 ((k : Int) - 2)) = ma at hMA hHH HM HC
      generalize HB (num40 ((k : Int) - 2)) = mb at hMB HM HC
      generalize mts HA HB (nums k) = M at HM ⊢
      generalize cvs HA HB (nums k) = C at HC ⊢
      have hb9 : Below wr.heap.size wr (wr.alloc (.cells #[.string (⟨#[97]⟩ : ByteArray), .bool false, .int .i64 ((k : Int) - 2), .string (⟨#[]⟩ : ByteArray)] 42)) := below_alloc (Below.refl _ _) _
      have hbw := below_step S1.out hb9
      have hC9 := one23 a ((hbw.block g9 (blk_lt hg9)).trans hg9)
      have hC10 := one23 b ((hbw.block g10 (blk_lt hg10)).trans hg10)
      have hg72 := (hbw.block g7 (blk_lt hg71)).trans hg71
      have hxn := heap_alloc_new wr (.cells #[.string (⟨#[97]⟩ : ByteArray), .bool false, .int .i64 ((k : Int) - 2), .string (⟨#[]⟩ : ByteArray)] 42 (0, 0))
      have hCx := one42 (⟨(⟨#[97]⟩ : ByteArray), num40 ((k : Int) - 2)⟩ : S42) hxn
      cases ma <;> cases mb <;> cases M <;> cases C
      all_goals go_wp2_with (first | (go_at_call 14; (with_reducible refine (match_n 5 _ 1 1 [a] rfl _ 1 1 [⟨(⟨#[97]⟩ : ByteArray), num40 ((k : Int) - 2)⟩] rfl _ _ hC9 (by decide) hCx (by decide) hMA).mono ?_); rintro e w5 ⟨rfl, hb5⟩; have hC10' := Kd.C_below hC10 hb5; have hCx' := Kd.C_below hCx hb5; have h75 := (hb5.block g7 (blk_lt hg72)).trans hg72; have hx5 := (hb5.block _ (blk_lt hxn)).trans hxn) | (go_at_call 14; (with_reducible refine (match_n 5 _ 1 1 [b] rfl _ 1 1 [⟨(⟨#[97]⟩ : ByteArray), num40 ((k : Int) - 2)⟩] rfl _ _ hC10' (by decide) hCx' (by decide) hMB).mono ?_); rintro e w6 ⟨rfl, hb6⟩; have h76 := (hb6.block g7 (blk_lt h75)).trans h75; have hx6 := (hb6.block _ (blk_lt hx5)).trans hx5) | go_in)
      all_goals
        have hbw6 : Below W1.heap.size W1 w6 := below_step (below_step hbw hb5) hb6
        clear hbw hb9 hC9 hC10 hg72 hxn hCx hC10' hCx' h75 hx5 hb5 hb6 hMA hMB
        generalize wr.heap.size = gx at hx6 ⊢
        have hS10 : ∀ w', Below w6.heap.size w6 w' → w'.cell? ⟨g7, 0, none⟩ = some (.string a.f0) ∧ w'.cell? ⟨g7, 1, none⟩ = some (.int .i64 a.f1) ∧ w'.cell? ⟨g7, 2, none⟩ = some (.int .i64 a.f2) ∧ w'.cell? ⟨g7, 3, none⟩ = some (.int .i64 a.f3) ∧ w'.cell? ⟨g7, 4, none⟩ = some (.string a.f4) ∧ w'.cell? ⟨gx, 1, none⟩ = some (.bool false) ∧ w'.cell? ⟨gx, 2, none⟩ = some (.int .i64 ((k : Int) - 2)) ∧ w'.cell? ⟨gx, 3, none⟩ = some (.string (⟨#[]⟩ : ByteArray)) := fun w' hW => by
          have h7 := (hW.block g7 (blk_lt h76)).trans h76
          have h8 := (hW.block gx (blk_lt hx6)).trans hx6
          exact ⟨(blk_cell h7 0).trans rfl, (blk_cell h7 1).trans rfl, (blk_cell h7 2).trans rfl, (blk_cell h7 3).trans rfl, (blk_cell h7 4).trans rfl, (blk_cell h8 1).trans rfl, (blk_cell h8 2).trans rfl, (blk_cell h8 3).trans rfl⟩
        refine start_ (n := 8) (S := fun w' => w'.cell? ⟨g7, 0, none⟩ = some (.string a.f0) ∧ w'.cell? ⟨g7, 1, none⟩ = some (.int .i64 a.f1) ∧ w'.cell? ⟨g7, 2, none⟩ = some (.int .i64 a.f2) ∧ w'.cell? ⟨g7, 3, none⟩ = some (.int .i64 a.f3) ∧ w'.cell? ⟨g7, 4, none⟩ = some (.string a.f4) ∧ w'.cell? ⟨gx, 1, none⟩ = some (.bool false) ∧ w'.cell? ⟨gx, 2, none⟩ = some (.int .i64 ((k : Int) - 2)) ∧ w'.cell? ⟨gx, 3, none⟩ = some (.string (⟨#[]⟩ : ByteArray))) (ds := []) #[false, false, false, false, false, false, false, false] (by kernel_rfl) rfl rfl (hS10 _ (below_drew1 (Below.refl _ _))) (fun hHeld => ?_)
        have hW0 : Below w6.heap.size w6 w6.drew := below_drew1 (Below.refl _ _)
        generalize w6.drew = W0 at hW0 hHeld ⊢
        refine pure_ (i := 0) (N := some 59) (v := ?_) (a' := ?_) #[true, false, false, false, false, false, false, false] rfl rfl (by kernel_rfl) (fun _ _ _ h => h) (Or.inl ⟨by rfl, ?_⟩) ?_ ?_
        rotate_left
        · intro w'
          go_simp
          with_reducible rfl
        rotate_left
        · simp only [Act.put, List.setIfInBounds_toArray, List.set_cons_zero, List.set_cons_succ, i64_w, i32_w]
          rfl
        refine take_ (i := 1) (N := some 60) (v := ?_) (a' := ?_) #[true, true, false, false, false, false, false, false] rfl rfl (by kernel_rfl) (fun _ _ _ h => h) (Or.inl ⟨by rfl, ?_⟩) hHeld ?_ ?_
        rotate_left
        · rintro w' ⟨s0, s1, s2, s3, s4, s5, s6, s7⟩
          go_simp
          with_reducible rfl
        rotate_left
        · simp only [Act.put, List.setIfInBounds_toArray, List.set_cons_zero, List.set_cons_succ, i64_w, i32_w]
          rfl
        refine pure_ (i := 2) (N := some 61) (v := ?_) (a' := ?_) #[true, true, true, false, false, false, false, false] rfl rfl (by kernel_rfl) (fun _ _ _ h => h) (Or.inl ⟨by rfl, ?_⟩) ?_ ?_
        rotate_left
        · intro w'
          go_simp
          with_reducible rfl
        rotate_left
        · simp only [Act.put, List.setIfInBounds_toArray, List.set_cons_zero, List.set_cons_succ, i64_w, i32_w]
          rfl
        refine pure_ (i := 3) (N := some 62) (v := ?_) (a' := ?_) #[true, true, true, true, false, false, false, false] rfl rfl (by kernel_rfl) (fun _ _ _ h => h) (Or.inl ⟨by rfl, ?_⟩) ?_ ?_
        rotate_left
        · intro w'
          go_simp
          with_reducible rfl
        rotate_left
        · simp only [Act.put, List.setIfInBounds_toArray, List.set_cons_zero, List.set_cons_succ, i64_w, i32_w]
          rfl
        refine pure_ (i := 4) (N := some 63) (v := ?_) (a' := ?_) #[true, true, true, true, true, false, false, false] rfl rfl (by kernel_rfl) (fun _ _ _ h => h) (Or.inl ⟨by rfl, ?_⟩) ?_ ?_
        rotate_left
        · intro w'
          go_simp
          with_reducible rfl
        rotate_left
        · simp only [Act.put, List.setIfInBounds_toArray, List.set_cons_zero, List.set_cons_succ, i64_w, i32_w]
          rfl
        refine take_ (i := 5) (N := some 64) (v := ?_) (a' := ?_) #[true, true, true, true, true, true, false, false] rfl rfl (by kernel_rfl) (fun _ _ _ h => h) (Or.inl ⟨by rfl, ?_⟩) hHeld ?_ ?_
        rotate_left
        · rintro w' ⟨s0, s1, s2, s3, s4, s5, s6, s7⟩
          go_simp
          with_reducible rfl
        rotate_left
        · simp only [Act.put, List.setIfInBounds_toArray, List.set_cons_zero, List.set_cons_succ, i64_w, i32_w]
          rfl
        refine one_ (i := 6) (N := some 65) #[true, true, true, true, true, true, true, false] rfl rfl (by kernel_rfl) (by decide) (fun K hK => ?_)
        refine goes_ Try.func21 (by kernel_rfl) rfl #[.agg #[.string a.f0, .int .i64 a.f1, .int .i64 a.f2, .int .i64 a.f3, .string a.f4], .agg #[.bool false, .int .i64 ((k : Int) - 2), .string (⟨#[]⟩ : ByteArray)]] (by rfl) rfl rfl (by (try simp only [List.map_toArray, List.map_cons, List.map_nil]); first | done | rfl) ?_
        refine (broadsideref1_Holds.calls a.f0 a.f1 a.f2 a.f3 a.f4 false ((k : Int) - 2) (⟨#[]⟩ : ByteArray) _ W0 hHH).mono ?_
        rintro e w7 ⟨rfl, hb7⟩
        refine ⟨_, rfl, ?_⟩
        have hb07 := below_step hW0 hb7
        refine hK.out _ _ (hS10 _ hb07) (fun hHeld => ?_)
        clear hK K
        refine norm_ (a' := ?_) ?_ ?_
        rotate_left
        · show Act.put _ (some 65) _ = _
          simp only [Act.put, List.setIfInBounds_toArray, List.set_cons_zero, List.set_cons_succ, i64_w, i32_w]
          rfl
        refine pure_ (i := 7) (N := some 66) (v := ?_) (a' := ?_) #[true, true, true, true, true, true, true, true] rfl rfl (by kernel_rfl) (fun _ _ _ h => h) (Or.inl ⟨by rfl, ?_⟩) ?_ ?_
        rotate_left
        · intro w'
          go_simp
          with_reducible rfl
        rotate_left
        · simp only [Act.put, List.setIfInBounds_toArray, List.set_cons_zero, List.set_cons_succ, i64_w, i32_w]
          rfl
        refine done_ (by kernel_rfl) ?_
        have hbw7 := below_step hbw6 hb07
        have e1 := HM.out
        have e2 := HC.out
        clear hbw6 hb07 hHeld hS10 hW0 hb7 h76 hx6 hHH
        go_wp2
        go_roundw
        case rel => exact ⟨k + 1, by omega, by go_num, by rw [e1]; rfl, by rw [e2]; rfl, ⟨hbw7⟩⟩
        case measure => simp [intOf]; omega
    · have hk25 : k = 25 := by omega
      subst hk25
      have hbs := S1.out
      clear S1
      generalize hM0 : mts HA HB (nums 25) = M0
      generalize hC0 : cvs HA HB (nums 25) = C0
      have HM0 := Aside0.mk hM0
      have HC0 := Aside0.mk hC0
      clear hM0 hC0
      go_wp2
      have hgs : (wr.alloc (.cells #[.string (⟨#[]⟩ : ByteArray), .string (⟨#[120]⟩ : ByteArray), .string (⟨#[120, 121]⟩ : ByteArray), .string (⟨#[120, 121, 122]⟩ : ByteArray), .string (⟨#[120, 122]⟩ : ByteArray), .string (⟨#[121]⟩ : ByteArray), .string (⟨#[121, 121]⟩ : ByteArray), .string (⟨#[121, 121, 121]⟩ : ByteArray), .string (⟨#[120, 121, 122, 122]⟩ : ByteArray), .string (⟨#[120, 120]⟩ : ByteArray), .string (⟨#[121, 120]⟩ : ByteArray), .string (⟨#[122]⟩ : ByteArray), .string (⟨#[120, 122, 113]⟩ : ByteArray)] 9)).heap[wr.heap.size]? = some (.cells (strs.map Value.string).toArray 9 (0, 0)) := heap_alloc_new wr _
      have hbs2 : Below W1.heap.size W1 (wr.alloc (.cells #[.string (⟨#[]⟩ : ByteArray), .string (⟨#[120]⟩ : ByteArray), .string (⟨#[120, 121]⟩ : ByteArray), .string (⟨#[120, 121, 122]⟩ : ByteArray), .string (⟨#[120, 122]⟩ : ByteArray), .string (⟨#[121]⟩ : ByteArray), .string (⟨#[121, 121]⟩ : ByteArray), .string (⟨#[121, 121, 121]⟩ : ByteArray), .string (⟨#[120, 121, 122, 122]⟩ : ByteArray), .string (⟨#[120, 120]⟩ : ByteArray), .string (⟨#[121, 120]⟩ : ByteArray), .string (⟨#[122]⟩ : ByteArray), .string (⟨#[120, 122, 113]⟩ : ByteArray)] 9)) := below_alloc hbs _
      generalize wr.alloc (.cells #[.string (⟨#[]⟩ : ByteArray), .string (⟨#[120]⟩ : ByteArray), .string (⟨#[120, 121]⟩ : ByteArray), .string (⟨#[120, 121, 122]⟩ : ByteArray), .string (⟨#[120, 122]⟩ : ByteArray), .string (⟨#[121]⟩ : ByteArray), .string (⟨#[121, 121]⟩ : ByteArray), .string (⟨#[121, 121, 121]⟩ : ByteArray), .string (⟨#[120, 121, 122, 122]⟩ : ByteArray), .string (⟨#[120, 120]⟩ : ByteArray), .string (⟨#[121, 120]⟩ : ByteArray), .string (⟨#[122]⟩ : ByteArray), .string (⟨#[120, 122, 113]⟩ : ByteArray)] 9) = W3 at hgs hbs2 ⊢
      generalize wr.heap.size = gs at hgs ⊢
      clear hbs
      go_loopw [11, 12, 69] (fun s11 s12 s69 wr => ∃ k : Nat, k ≤ 13 ∧ s69 = .int .i64 k ∧ s11 = .bool (mts HA HB (nums 25 ++ texts40 k)) ∧ s12 = .bool (cvs HA HB (nums 25 ++ texts40 k)) ∧ Aside0 (Below W3.heap.size W3 wr)) (fun _ _ s69 _ => 13 - (intOf s69).toNat)
      case atStart => exact ⟨0, by omega, rfl, by rw [← HM0.out]; simp [texts40], by rw [← HC0.out]; simp [texts40], ⟨Below.refl _ _⟩⟩
      case round =>
        obtain ⟨k, hk, rfl, rfl, rfl, S1⟩ := hrel
        have hnk : (Int.toNat (k : Int)) = k := Int.toNat_natCast k
        by_cases hlt : k < 13
        · have hMA := hA (txt40 (strs.getD k ⟨#[]⟩))
          have hMB := hB (txt40 (strs.getD k ⟨#[]⟩))
          have hm' := mts_snoc HA HB (nums 25 ++ texts40 k) (txt40 (strs.getD k ⟨#[]⟩))
          have hc' := cvs_snoc HA HB (nums 25 ++ texts40 k) (txt40 (strs.getD k ⟨#[]⟩))
          rw [List.append_assoc, ← texts_succ k hlt] at hm' hc'
          have HM := Aside0.mk hm'
          have HC := Aside0.mk hc'
          clear hm' hc'
          have hgsr := (S1.out.block gs (blk_lt hgs)).trans hgs
          have hsc : wr.cell? ⟨gs, k, none⟩ = some (.string (strs.getD k ⟨#[]⟩)) := by
            rw [blk_cell hgsr, List.getD_eq_getElem?_getD, List.getElem?_eq_getElem (show k < strs.length from hlt)]
            simp [show k < strs.length from hlt]
          generalize strs.getD k ⟨#[]⟩ = s at hMA hMB HM HC hsc
          generalize HA (txt40 s) = ma at hMA HM HC
          generalize HB (txt40 s) = mb at hMB HM HC
          generalize mts HA HB (nums 25 ++ texts40 k) = M at HM ⊢
          generalize cvs HA HB (nums 25 ++ texts40 k) = C at HC ⊢
          have hb9 : Below wr.heap.size wr (wr.alloc (.cells #[.string (⟨#[97]⟩ : ByteArray), .bool true, .int .i64 0, .string s] 42)) := below_alloc (Below.refl _ _) _
          have hbw := below_step S1.out hb9
          have hbw1 := below_step hbs2 hbw
          have hC9 := one23 a ((hbw1.block g9 (blk_lt hg9)).trans hg9)
          have hC10 := one23 b ((hbw1.block g10 (blk_lt hg10)).trans hg10)
          have hCx := one42 (⟨(⟨#[97]⟩ : ByteArray), txt40 s⟩ : S42) (heap_alloc_new wr (.cells #[.string (⟨#[97]⟩ : ByteArray), .bool true, .int .i64 0, .string s] 42 (0, 0)))
          cases ma <;> cases mb <;> cases M <;> cases C
          all_goals go_wp2_with (first | (go_at_call 14; (with_reducible refine (match_n 5 _ 1 1 [a] rfl _ 1 1 [⟨(⟨#[97]⟩ : ByteArray), txt40 s⟩] rfl _ _ hC9 (by decide) hCx (by decide) hMA).mono ?_); rintro e w5 ⟨rfl, hb5⟩; have hC10' := Kd.C_below hC10 hb5; have hCx' := Kd.C_below hCx hb5) | (go_at_call 14; (with_reducible refine (match_n 5 _ 1 1 [b] rfl _ 1 1 [⟨(⟨#[97]⟩ : ByteArray), txt40 s⟩] rfl _ _ hC10' (by decide) hCx' (by decide) hMB).mono ?_); rintro e w6 ⟨rfl, hb6⟩) | go_in)
          all_goals
            have hbw6 : Below W3.heap.size W3 w6 := below_step (below_step hbw hb5) hb6
            have e1 := HM.out
            have e2 := HC.out
            clear hbw hb9 hC9 hC10 hCx hC10' hCx' hb5 hb6 hMA hMB hbw1 hsc hgsr
            go_roundw
            case rel => exact ⟨k + 1, by omega, by go_num, by rw [e1]; rfl, by rw [e2]; rfl, ⟨hbw6⟩⟩
            case measure => simp [intOf]; omega
        · have hk13 : k = 13 := by omega
          subst hk13
          have hbw := below_step hbs2 S1.out
          have hC9 := one23 a ((hbw.block g9 (blk_lt hg9)).trans hg9)
          have hC10 := one23 b ((hbw.block g10 (blk_lt hg10)).trans hg10)
          have hBw := below_step hBW1 hbw
          generalize mts HA HB (nums 25 ++ texts40 13) = M at hM ⊢
          generalize cvs HA HB (nums 25 ++ texts40 13) = C at hC ⊢
          clear S1 hg71
          cases M <;> cases C
          all_goals go_wp2_with (first | (go_at_call 10; (with_reducible refine (meets_n 10 _ 1 1 [a] rfl _ 1 1 [b] rfl _ _ hC9 (by decide) hC10 (by decide) hM).mono ?_); rintro e w5 ⟨rfl, hb5⟩; have hC9' := Kd.C_below hC9 hb5; have hC10' := Kd.C_below hC10 hb5) | (go_at_call 11; (with_reducible refine (covers_n _ 1 1 [a] rfl _ 1 1 [b] rfl _ _ hC9' (by decide) hC10' (by decide) hC).mono ?_); rintro e w6 ⟨rfl, hb6⟩; have hC9'' := Kd.C_below hC9' hb6) | (go_at_call 22; (with_reducible refine (broadsidekeep_Value.calls v vv.f0 vv.f1 vv.f2 _ hv).mono ?_); rintro e w7 ⟨rfl, hb7⟩; have hb77 : Below w7.heap.size w7 (w7.alloc (.cells #[.string (⟨#[98]⟩ : ByteArray), .bool vv.f0, .int .i64 vv.f1, .string vv.f2] 42)) := below_alloc (Below.refl _ _) _; have hC97 := Kd.C_below (Kd.C_below hC9'' hb7) hb77; have hCv := one42 (⟨(⟨#[98]⟩ : ByteArray), vv⟩ : S42) (heap_alloc_new w7 (.cells #[.string (⟨#[98]⟩ : ByteArray), .bool vv.f0, .int .i64 vv.f1, .string vv.f2] 42 (0, 0)))) | (go_at_call 14; (with_reducible refine (match_n 5 _ 1 1 [a] rfl _ 1 1 [⟨(⟨#[98]⟩ : ByteArray), vv⟩] rfl _ _ hC97 (by decide) hCv (by decide) hN).mono ?_); rintro e w8 ⟨rfl, hb8⟩) | (go_at_call 3; (with_reducible refine (broadsidelaw5_RelRuns.calls _).mono ?_); rintro e w9 ⟨rfl, hb9⟩) | go_in)
          all_goals
            go_ret
            exact ⟨rfl, below_step (below_step (below_step (below_step (below_step (below_step hBw hb5) hb6) hb7) hb77) hb8) hb9⟩
theorem relOne_calls (i j v : Int) (w : World) : Calls Try.prog 6 #[.int .i64 i, .int .i64 j, .int .i64 v] w fun e w' => e = .returned (.bool true) ∧ Below w.heap.size w w' := by
  obtain ⟨a, hca, ha⟩ := con_vals i
  obtain ⟨b, hcb, hb⟩ := con_vals j
  obtain ⟨vv, hv⟩ := value_vals v
  have h0 : ∀ c : S23, ((∃ lo hi, 0 ≤ lo ∧ lo ≤ 9 ∧ lo ≤ hi ∧ hi ≤ 18 ∧ c = rng lo hi) ∨ c ∈ tcs) → c.f0 = aa := fun c hc => by
    rcases hc with ⟨_, _, _, _, _, _, rfl⟩ | hc
    · rfl
    · exact (tcs_kind hc).1
  refine one_calls i j v a b vv w hca hcb hv (H1 a) (H1 b) (fun x => ?_) (fun x => ?_) (fun x => ref_f a x) ?_ (one_meets a b ha hb) (one_covers a b ha hb)
  · rw [match_one, h0 a ha, if_pos rfl]
  · rw [match_one, h0 b hb, if_pos rfl]
  · rw [match_one, h0 a ha, if_neg (by rw [ByteArray.toList_eq, ByteArray.toList_eq]; decide)]
end Go.Proofs.Ytfabnapjbgamaaa.MRelTrue
