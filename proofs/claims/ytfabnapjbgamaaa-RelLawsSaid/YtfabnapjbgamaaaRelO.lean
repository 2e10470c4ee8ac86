import Derived.Test.YtfabnapjbgamaaaRelN
import Derived.Test.YtfabnapjbgamaaaRelJ
namespace Go.Proofs.Ytfabnapjbgamaaa.MRelTrue
open Go.RowKit Go.Lib Go.Proofs.YtfabnapjbgamaaaW.PrintWords Go.Proofs.YtfabnapjbgamaaaW.PrintLast Go.Proofs.YtfabnapjbgamaaaW.PrintMore
set_option linter.unusedVariables false
set_option linter.unusedSimpArgs false
/-! ### RelLaws: function 5 -/
theorem nice_nil : Nice nms [] := { rises := rises_nil, ok := fun c hc => by simp at hc, len := Nat.zero_le _, name := fun c hc => by simp at hc }
theorem sample_n (k : Nat) (A0 : Option Addr) (n0 c0 : Nat) (l0 : List (S23)) (e0 : l0.length = n0) (r : List S42) (w : World) (hr0 : Kd.C k23 w A0 n0 l0) (hc0 : n0 ≤ c0) (h : rel_Sample.f k l0 = some r) :
    Calls Try.prog 19 #[.slice A0 n0 c0] w fun e w' => ∃ v0_ : Value, e = .returned (v0_) ∧ Kd.R k42 42 w' w.heap.size (fun _ => True) v0_ r ∧ Below w.heap.size w w' := by
  subst e0
  exact rel_Sample.calls k A0 c0 l0 r w hr0 hc0 h
theorem same_n (k : Nat) (A0 : Option Addr) (n0 c0 : Nat) (l0 : List (S23)) (e0 : l0.length = n0) (A1 : Option Addr) (n1 c1 : Nat) (l1 : List (S23)) (e1 : l1.length = n1) (r : Bool) (w : World) (hr0 : Kd.C k23 w A0 n0 l0) (hc0 : n0 ≤ c0) (hr1 : Kd.C k23 w A1 n1 l1) (hc1 : n1 ≤ c1) (h : api_Constraint_18.f k l0 l1 = some r) :
    Calls Try.prog 18 #[.slice A0 n0 c0, .slice A1 n1 c1] w fun e w' => e = .returned (.bool r) ∧ Below w.heap.size w w' := by
  subst e0
  subst e1
  refine (api_Constraint_18.calls k A0 c0 l0 A1 c1 l1 r w hr0 hc0 hr1 hc1 h).mono ?_
  rintro e w' ⟨he, hd⟩
  exact ⟨he, hd.below⟩
set_option maxHeartbeats 16000000 in
set_option maxRecDepth 1000000 in
theorem relLaws_calls (A0 B0 : Option Addr) (a0 b0 : Nat) (l0 m0 : List Int) (A1 B1 : Option Addr) (a1 b1 : Nat) (l1 m1 : List Int) (A2 B2 : Option Addr) (a2 b2 : Nat) (l2 m2 : List Int) (w : World) (hr0 : Kd.C (Kd.int .i64) w A0 l0.length l0) (hc0 : l0.length ≤ a0) (hs0 : Kd.C (Kd.int .i64) w B0 m0.length m0) (hd0 : m0.length ≤ b0) (hr1 : Kd.C (Kd.int .i64) w A1 l1.length l1) (hc1 : l1.length ≤ a1) (hs1 : Kd.C (Kd.int .i64) w B1 m1.length m1) (hd1 : m1.length ≤ b1) (hr2 : Kd.C (Kd.int .i64) w A2 l2.length l2) (hc2 : l2.length ≤ a2) (hs2 : Kd.C (Kd.int .i64) w B2 m2.length m2) (hd2 : m2.length ≤ b2) :
    Calls Try.prog 5 #[.agg #[.slice A0 l0.length a0, .slice B0 m0.length b0], .agg #[.slice A1 l1.length a1, .slice B1 m1.length b1], .agg #[.slice A2 l2.length a2, .slice B2 m2.length b2]] w fun e w' => e = .returned (.bool true) ∧ Below w.heap.size w w' := by
  have hu29 := Try.underlying29
  obtain ⟨a, hfa, ha⟩ := pred_nice l0 m0
  obtain ⟨b, hfb, hb⟩ := pred_nice l1 m1
  obtain ⟨c, hfc, hc⟩ := pred_nice l2 m2
  go_enter Try.func5, Try.ntmps5
  go_wp2
  have hg0 : (((w.alloc (.cells #[.slice A0 l0.length a0, .slice B0 m0.length b0] 29)).alloc (.cells #[.slice A1 l1.length a1, .slice B1 m1.length b1] 29)).alloc (.cells #[.slice A2 l2.length a2, .slice B2 m2.length b2] 29)).heap[w.heap.size]? = some (.cells #[.slice A0 l0.length a0, .slice B0 m0.length b0] 29 (0, 0)) := pred_Both.up (pred_Both.up (heap_alloc_new w _) _) _
  have hg1 : (((w.alloc (.cells #[.slice A0 l0.length a0, .slice B0 m0.length b0] 29)).alloc (.cells #[.slice A1 l1.length a1, .slice B1 m1.length b1] 29)).alloc (.cells #[.slice A2 l2.length a2, .slice B2 m2.length b2] 29)).heap[w.heap.size + 1]? = some (.cells #[.slice A1 l1.length a1, .slice B1 m1.length b1] 29 (0, 0)) := pred_Both.up (pred_Both.top _ _ (by simp)) _
  have hg2 : (((w.alloc (.cells #[.slice A0 l0.length a0, .slice B0 m0.length b0] 29)).alloc (.cells #[.slice A1 l1.length a1, .slice B1 m1.length b1] 29)).alloc (.cells #[.slice A2 l2.length a2, .slice B2 m2.length b2] 29)).heap[w.heap.size + 1 + 1]? = some (.cells #[.slice A2 l2.length a2, .slice B2 m2.length b2] 29 (0, 0)) := pred_Both.top _ _ (by simp)
  have hBW : Below w.heap.size w (((w.alloc (.cells #[.slice A0 l0.length a0, .slice B0 m0.length b0] 29)).alloc (.cells #[.slice A1 l1.length a1, .slice B1 m1.length b1] 29)).alloc (.cells #[.slice A2 l2.length a2, .slice B2 m2.length b2] 29)) := below_alloc (below_alloc (below_alloc (Below.refl _ _) _) _) _
  generalize ((w.alloc (.cells #[.slice A0 l0.length a0, .slice B0 m0.length b0] 29)).alloc (.cells #[.slice A1 l1.length a1, .slice B1 m1.length b1] 29)).alloc (.cells #[.slice A2 l2.length a2, .slice B2 m2.length b2] 29) = W1 at hg0 hg1 hg2 hBW ⊢
  generalize w.heap.size + 1 + 1 = g2 at hg2 ⊢
  generalize w.heap.size + 1 = g1 at hg1 ⊢
  obtain ⟨g0, hgd⟩ : ∃ g0, g0 = w.heap.size := ⟨_, rfl⟩
  rw [← hgd] at hg0 ⊢
  clear hgd
  have hS1 : ∀ w', Below W1.heap.size W1 w' → w'.cell? ⟨g0, 0, none⟩ = some (.slice A0 l0.length a0) ∧ w'.cell? ⟨g0, 1, none⟩ = some (.slice B0 m0.length b0) ∧ w'.cell? ⟨g1, 0, none⟩ = some (.slice A1 l1.length a1) ∧ w'.cell? ⟨g1, 1, none⟩ = some (.slice B1 m1.length b1) ∧ w'.cell? ⟨g2, 0, none⟩ = some (.slice A2 l2.length a2) ∧ w'.cell? ⟨g2, 1, none⟩ = some (.slice B2 m2.length b2) := fun w' hW => by
    have h0 := (hW.block g0 (blk_lt hg0)).trans hg0
    have h1 := (hW.block g1 (blk_lt hg1)).trans hg1
    have h2 := (hW.block g2 (blk_lt hg2)).trans hg2
    exact ⟨(blk_cell h0 0).trans rfl, (blk_cell h0 1).trans rfl, (blk_cell h1 0).trans rfl, (blk_cell h1 1).trans rfl, (blk_cell h2 0).trans rfl, (blk_cell h2 1).trans rfl⟩
  refine start_ (n := 9) (S := fun w' => w'.cell? ⟨g0, 0, none⟩ = some (.slice A0 l0.length a0) ∧ w'.cell? ⟨g0, 1, none⟩ = some (.slice B0 m0.length b0) ∧ w'.cell? ⟨g1, 0, none⟩ = some (.slice A1 l1.length a1) ∧ w'.cell? ⟨g1, 1, none⟩ = some (.slice B1 m1.length b1) ∧ w'.cell? ⟨g2, 0, none⟩ = some (.slice A2 l2.length a2) ∧ w'.cell? ⟨g2, 1, none⟩ = some (.slice B2 m2.length b2)) (ds := []) #[false, false, false, false, false, false, false, false, false] (by kernel_rfl) rfl rfl (hS1 _ (below_drew1 (Below.refl _ _))) (fun hHeld => ?_)
  have hW0 : Below W1.heap.size W1 W1.drew := below_drew1 (Below.refl _ _)
  have hB0 : Below w.heap.size w W1.drew := below_step hBW hW0
  generalize W1.drew = W0 at hW0 hB0 hHeld ⊢
  refine take_ (i := 0) (N := some 11) (v := ?_) (a' := ?_) #[true, false, false, false, false, false, false, false, false] rfl rfl (by kernel_rfl) (fun _ _ _ h => h) (Or.inl ⟨by rfl, ?_⟩) hHeld ?_ ?_
  rotate_left
  · rintro w' ⟨s0, s1, s2, s3, s4, s5⟩
    go_simp
    with_reducible rfl
  rotate_left
  · simp only [Act.put, List.setIfInBounds_toArray, List.set_cons_zero, List.set_cons_succ, i64_w, i32_w]
    rfl
  refine take_ (i := 2) (N := some 13) (v := ?_) (a' := ?_) #[true, false, true, false, false, false, false, false, false] rfl rfl (by kernel_rfl) (fun _ _ _ h => h) (Or.inl ⟨by rfl, ?_⟩) hHeld ?_ ?_
  rotate_left
  · rintro w' ⟨s0, s1, s2, s3, s4, s5⟩
    go_simp
    with_reducible rfl
  rotate_left
  · simp only [Act.put, List.setIfInBounds_toArray, List.set_cons_zero, List.set_cons_succ, i64_w, i32_w]
    rfl
  refine take_ (i := 4) (N := some 15) (v := ?_) (a' := ?_) #[true, false, true, false, true, false, false, false, false] rfl rfl (by kernel_rfl) (fun _ _ _ h => h) (Or.inl ⟨by rfl, ?_⟩) hHeld ?_ ?_
  rotate_left
  · rintro w' ⟨s0, s1, s2, s3, s4, s5⟩
    go_simp
    with_reducible rfl
  rotate_left
  · simp only [Act.put, List.setIfInBounds_toArray, List.set_cons_zero, List.set_cons_succ, i64_w, i32_w]
    rfl
  refine one_ (i := 1) (N := some 12) #[true, true, true, false, true, false, false, false, false] rfl rfl (by kernel_rfl) (by decide) (fun K hK => ?_)
  refine goes_ Try.func12 (by kernel_rfl) rfl #[.agg #[.slice A0 l0.length a0, .slice B0 m0.length b0]] (by rfl) rfl rfl (by (try simp only [List.map_toArray, List.map_cons, List.map_nil]); first | done | rfl) ?_
  refine (broadsidekeep_Pred_Pred.calls 20 A0 a0 l0 B0 b0 m0 a _ (Kd.C_below hr0 hB0) hc0 (Kd.C_below hs0 hB0) hd0 hfa).mono ?_
  rintro e w4 ⟨va, rfl, hRa, hb4⟩
  obtain ⟨Aa, ca, rfl, hca, hCa⟩ := Kd.R_reads hRa
  refine ⟨_, rfl, ?_⟩
  have hB4 := below_step hB0 hb4
  have hL4 := below_step hW0 hb4
  refine hK.out _ _ (hS1 _ hL4) (fun hHeld => ?_)
  clear hK K
  refine norm_ (a' := ?_) ?_ ?_
  rotate_left
  · show Act.put _ (some 12) _ = _
    simp only [Act.put, List.setIfInBounds_toArray, List.set_cons_zero, List.set_cons_succ, i64_w, i32_w]
    rfl
  refine one_ (i := 3) (N := some 14) #[true, true, true, true, true, false, false, false, false] rfl rfl (by kernel_rfl) (by decide) (fun K hK => ?_)
  refine goes_ Try.func12 (by kernel_rfl) rfl #[.agg #[.slice A1 l1.length a1, .slice B1 m1.length b1]] (by rfl) rfl rfl (by (try simp only [List.map_toArray, List.map_cons, List.map_nil]); first | done | rfl) ?_
  refine (broadsidekeep_Pred_Pred.calls 20 A1 a1 l1 B1 b1 m1 b _ (Kd.C_below hr1 hB4) hc1 (Kd.C_below hs1 hB4) hd1 hfb).mono ?_
  rintro e w5 ⟨vb, rfl, hRb, hb5⟩
  obtain ⟨Ab, cb, rfl, hcb, hCb⟩ := Kd.R_reads hRb
  refine ⟨_, rfl, ?_⟩
  have hB5 := below_step hB4 hb5
  have hL5 := below_step hL4 hb5
  refine hK.out _ _ (hS1 _ hL5) (fun hHeld => ?_)
  clear hK K
  refine norm_ (a' := ?_) ?_ ?_
  rotate_left
  · show Act.put _ (some 14) _ = _
    simp only [Act.put, List.setIfInBounds_toArray, List.set_cons_zero, List.set_cons_succ, i64_w, i32_w]
    rfl
  refine one_ (i := 5) (N := some 16) #[true, true, true, true, true, true, false, false, false] rfl rfl (by kernel_rfl) (by decide) (fun K hK => ?_)
  refine goes_ Try.func12 (by kernel_rfl) rfl #[.agg #[.slice A2 l2.length a2, .slice B2 m2.length b2]] (by rfl) rfl rfl (by (try simp only [List.map_toArray, List.map_cons, List.map_nil]); first | done | rfl) ?_
  refine (broadsidekeep_Pred_Pred.calls 20 A2 a2 l2 B2 b2 m2 c _ (Kd.C_below hr2 hB5) hc2 (Kd.C_below hs2 hB5) hd2 hfc).mono ?_
  rintro e w6 ⟨vc, rfl, hRc, hb6⟩
  obtain ⟨Ac, cc, rfl, hcc, hCc⟩ := Kd.R_reads hRc
  refine ⟨_, rfl, ?_⟩
  have hB6 := below_step hB5 hb6
  have hL6 := below_step hL5 hb6
  refine hK.out _ _ (hS1 _ hL6) (fun hHeld => ?_)
  clear hK K
  refine norm_ (a' := ?_) ?_ ?_
  rotate_left
  · show Act.put _ (some 16) _ = _
    simp only [Act.put, List.setIfInBounds_toArray, List.set_cons_zero, List.set_cons_succ, i64_w, i32_w]
    rfl
  refine pure_ (i := 6) (N := some 7) (v := ?_) (a' := ?_) #[true, true, true, true, true, true, true, false, false] rfl rfl (by kernel_rfl) (fun _ _ _ h => h) (Or.inl ⟨by rfl, ?_⟩) ?_ ?_
  rotate_left
  · intro w'
    go_simp
    with_reducible rfl
  rotate_left
  · simp only [Act.put, List.setIfInBounds_toArray, List.set_cons_zero, List.set_cons_succ, i64_w, i32_w]
    rfl
  refine pure_ (i := 7) (N := some 8) (v := ?_) (a' := ?_) #[true, true, true, true, true, true, true, true, false] rfl rfl (by kernel_rfl) (fun _ _ _ h => h) (Or.inl ⟨by rfl, ?_⟩) ?_ ?_
  rotate_left
  · intro w'
    go_simp
    with_reducible rfl
  rotate_left
  · simp only [Act.put, List.setIfInBounds_toArray, List.set_cons_zero, List.set_cons_succ, i64_w, i32_w]
    rfl
  refine pure_ (i := 8) (N := some 9) (v := ?_) (a' := ?_) #[true, true, true, true, true, true, true, true, true] rfl rfl (by kernel_rfl) (fun _ _ _ h => h) (Or.inl ⟨by rfl, ?_⟩) ?_ ?_
  rotate_left
  · intro w'
    go_simp
    with_reducible rfl
  rotate_left
  · simp only [Act.put, List.setIfInBounds_toArray, List.set_cons_zero, List.set_cons_succ, i64_w, i32_w]
    rfl
  refine done_ (by kernel_rfl) ?_
  have hCa := Kd.C_below (Kd.C_below hCa hb5) hb6
  have hCb := Kd.C_below hCb hb6
  clear hS1 hHeld hL4 hL5 hL6 hW0 hB0 hBW hRa hRb hRc hb4 hb5 hb6 hB4 hB5 hg0 hg1 hg2
  have fab := covers_char nms_ok ha hb
  have fba := covers_char nms_ok hb ha
  have fbc := covers_char nms_ok hb hc
  have fac := covers_char nms_ok ha hc
  have faa := covers_char nms_ok ha ha
  rw [cv_refl ha.rises] at faa
  have fna := covers_char nms_ok nice_nil ha
  rw [cv_nil] at fna
  have mab := meets_char nms_ok ha hb
  have mba := meets_char nms_ok hb ha
  rw [mt_comm hb.rises ha.rises] at mba
  have mbc := meets_char nms_ok hb hc
  have mac := meets_char nms_ok ha hc
  have maa := meets_char nms_ok ha ha
  rw [mt_self ha.rises ha.ok ha.len] at maa
  have mna := meets_char nms_ok nice_nil ha
  rw [mt_nil ha.len] at mna
  have fsm := laws_same ha hb
  obtain ⟨sm, hsm⟩ := sample_all a (by have := ha.len; omega)
  have hmm : rel_Match.f 5 [] sm = some true := rfl
  have t1 : cv a b = true → cv b c = true → cv a c = true := cv_trans hb.rises hc.rises
  have t2 : cv a b = true → mt b c = true → mt a c = true := cv_mt ha.rises hb.rises hc.rises
  generalize cv a b = xab at fab fsm t1 t2
  generalize cv b a = xba at fba fsm
  generalize cv b c = xbc at fbc t1
  generalize cv a c = xac at fac t1
  generalize mt a b = yab at mab mba
  generalize mt b c = ybc at mbc t2
  generalize mt a c = yac at mac t2
  have hB := Below.refl w6.heap.size w6
  clear hfa hfb hfc ha hb hc hr0 hr1 hr2 hs0 hs1 hs2
  cases xab
  · cases yab <;> simp only [Bool.false_and] at fsm
    all_goals
      go_wp2_with (first | (go_at_call 11; (with_reducible refine (covers_n Aa _ ca a rfl Ab _ cb b rfl _ _ (Kd.C_below hCa hB) hca (Kd.C_below hCb hB) hcb fab).mono ?_); rintro e w7 ⟨rfl, hb7⟩; have hB := below_step hB hb7) | (go_at_call 11; (with_reducible refine (covers_n Ab _ cb b rfl Ac _ cc c rfl _ _ (Kd.C_below hCb hB) hcb (Kd.C_below hCc hB) hcc fbc).mono ?_); rintro e w7 ⟨rfl, hb7⟩; have hB := below_step hB hb7) | (go_at_call 11; (with_reducible refine (covers_n Aa _ ca a rfl Ac _ cc c rfl _ _ (Kd.C_below hCa hB) hca (Kd.C_below hCc hB) hcc fac).mono ?_); rintro e w7 ⟨rfl, hb7⟩; have hB := below_step hB hb7) | (go_at_call 11; (with_reducible refine (covers_n Aa _ ca a rfl Aa _ ca a rfl _ _ (Kd.C_below hCa hB) hca (Kd.C_below hCa hB) hca faa).mono ?_); rintro e w7 ⟨rfl, hb7⟩; have hB := below_step hB hb7) | (go_at_call 11; (with_reducible refine (covers_n none 0 0 ([] : List S23) rfl Aa _ ca a rfl _ _ (Kd.C_nil _ _) (Nat.le_refl _) (Kd.C_below hCa hB) hca fna).mono ?_); rintro e w7 ⟨rfl, hb7⟩; have hB := below_step hB hb7) | (go_at_call 11; (with_reducible refine (covers_n Ab _ cb b rfl Aa _ ca a rfl _ _ (Kd.C_below hCb hB) hcb (Kd.C_below hCa hB) hca fba).mono ?_); rintro e w7 ⟨rfl, hb7⟩; have hB := below_step hB hb7) | (go_at_call 10; (with_reducible refine (meets_n 10 Aa _ ca a rfl Ab _ cb b rfl _ _ (Kd.C_below hCa hB) hca (Kd.C_below hCb hB) hcb mab).mono ?_); rintro e w7 ⟨rfl, hb7⟩; have hB := below_step hB hb7) | (go_at_call 10; (with_reducible refine (meets_n 10 Ab _ cb b rfl Aa _ ca a rfl _ _ (Kd.C_below hCb hB) hcb (Kd.C_below hCa hB) hca mba).mono ?_); rintro e w7 ⟨rfl, hb7⟩; have hB := below_step hB hb7) | (go_at_call 10; (with_reducible refine (meets_n 10 Ab _ cb b rfl Ac _ cc c rfl _ _ (Kd.C_below hCb hB) hcb (Kd.C_below hCc hB) hcc mbc).mono ?_); rintro e w7 ⟨rfl, hb7⟩; have hB := below_step hB hb7) | (go_at_call 10; (with_reducible refine (meets_n 10 Aa _ ca a rfl Ac _ cc c rfl _ _ (Kd.C_below hCa hB) hca (Kd.C_below hCc hB) hcc mac).mono ?_); rintro e w7 ⟨rfl, hb7⟩; have hB := below_step hB hb7) | (go_at_call 10; (with_reducible refine (meets_n 10 Aa _ ca a rfl Aa _ ca a rfl _ _ (Kd.C_below hCa hB) hca (Kd.C_below hCa hB) hca maa).mono ?_); rintro e w7 ⟨rfl, hb7⟩; have hB := below_step hB hb7) | (go_at_call 10; (with_reducible refine (meets_n 10 none 0 0 ([] : List S23) rfl Aa _ ca a rfl _ _ (Kd.C_nil _ _) (Nat.le_refl _) (Kd.C_below hCa hB) hca mna).mono ?_); rintro e w7 ⟨rfl, hb7⟩; have hB := below_step hB hb7) | (go_at_call 18; (with_reducible refine (same_n 10 Aa _ ca a rfl Ab _ cb b rfl _ _ (Kd.C_below hCa hB) hca (Kd.C_below hCb hB) hcb fsm).mono ?_); rintro e w7 ⟨rfl, hb7⟩; have hB := below_step hB hb7) | (go_at_call 19; (with_reducible refine (sample_n 10 Aa _ ca a rfl sm _ (Kd.C_below hCa hB) hca hsm).mono ?_); rintro e w7 ⟨v7, rfl, hR7, hb7⟩; obtain ⟨As, cs, rfl, hcs, hCs⟩ := Kd.R_reads hR7; have hB := below_step hB hb7) | (go_at_call 14; (with_reducible refine (match_n 5 none 0 0 [] rfl As _ cs sm rfl true _ (Kd.C_nil _ _) (Nat.le_refl _) hCs hcs hmm).mono ?_); rintro e w7 ⟨rfl, hb7⟩; have hB := below_step hB hb7) | (go_at_call 3; (with_reducible refine (broadsidelaw5_RelRuns.calls _).mono ?_); rintro e w7 ⟨rfl, hb7⟩; have hB := below_step hB hb7) | go_in)
      go_ret
      exact ⟨rfl, below_step hB6 hB⟩
  · cases xbc <;> cases ybc <;> cases yab <;> cases xba <;> simp only [Bool.true_and] at fsm
    all_goals try (have e1 := t1 rfl rfl; subst e1)
    all_goals try (have e2 := t2 rfl rfl; subst e2)
    all_goals
      go_wp2_with (first | (go_at_call 11; (with_reducible refine (covers_n Aa _ ca a rfl Ab _ cb b rfl _ _ (Kd.C_below hCa hB) hca (Kd.C_below hCb hB) hcb fab).mono ?_); rintro e w7 ⟨rfl, hb7⟩; have hB := below_step hB hb7) | (go_at_call 11; (with_reducible refine (covers_n Ab _ cb b rfl Ac _ cc c rfl _ _ (Kd.C_below hCb hB) hcb (Kd.C_below hCc hB) hcc fbc).mono ?_); rintro e w7 ⟨rfl, hb7⟩; have hB := below_step hB hb7) | (go_at_call 11; (with_reducible refine (covers_n Aa _ ca a rfl Ac _ cc c rfl _ _ (Kd.C_below hCa hB) hca (Kd.C_below hCc hB) hcc fac).mono ?_); rintro e w7 ⟨rfl, hb7⟩; have hB := below_step hB hb7) | (go_at_call 11; (with_reducible refine (covers_n Aa _ ca a rfl Aa _ ca a rfl _ _ (Kd.C_below hCa hB) hca (Kd.C_below hCa hB) hca faa).mono ?_); rintro e w7 ⟨rfl, hb7⟩; have hB := below_step hB hb7) | (go_at_call 11; (with_reducible refine (covers_n none 0 0 ([] : List S23) rfl Aa _ ca a rfl _ _ (Kd.C_nil _ _) (Nat.le_refl _) (Kd.C_below hCa hB) hca fna).mono ?_); rintro e w7 ⟨rfl, hb7⟩; have hB := below_step hB hb7) | (go_at_call 11; (with_reducible refine (covers_n Ab _ cb b rfl Aa _ ca a rfl _ _ (Kd.C_below hCb hB) hcb (Kd.C_below hCa hB) hca fba).mono ?_); rintro e w7 ⟨rfl, hb7⟩; have hB := below_step hB hb7) | (go_at_call 10; (with_reducible refine (meets_n 10 Aa _ ca a rfl Ab _ cb b rfl _ _ (Kd.C_below hCa hB) hca (Kd.C_below hCb hB) hcb mab).mono ?_); rintro e w7 ⟨rfl, hb7⟩; have hB := below_step hB hb7) | (go_at_call 10; (with_reducible refine (meets_n 10 Ab _ cb b rfl Aa _ ca a rfl _ _ (Kd.C_below hCb hB) hcb (Kd.C_below hCa hB) hca mba).mono ?_); rintro e w7 ⟨rfl, hb7⟩; have hB := below_step hB hb7) | (go_at_call 10; (with_reducible refine (meets_n 10 Ab _ cb b rfl Ac _ cc c rfl _ _ (Kd.C_below hCb hB) hcb (Kd.C_below hCc hB) hcc mbc).mono ?_); rintro e w7 ⟨rfl, hb7⟩; have hB := below_step hB hb7) | (go_at_call 10; (with_reducible refine (meets_n 10 Aa _ ca a rfl Ac _ cc c rfl _ _ (Kd.C_below hCa hB) hca (Kd.C_below hCc hB) hcc mac).mono ?_); rintro e w7 ⟨rfl, hb7⟩; have hB := below_step hB hb7) | (go_at_call 10; (with_reducible refine (meets_n 10 Aa _ ca a rfl Aa _ ca a rfl _ _ (Kd.C_below hCa hB) hca (Kd.C_below hCa hB) hca maa).mono ?_); rintro e w7 ⟨rfl, hb7⟩; have hB := below_step hB hb7) | (go_at_call 10; (with_reducible refine (meets_n 10 none 0 0 ([] : List S23) rfl Aa _ ca a rfl _ _ (Kd.C_nil _ _) (Nat.le_refl _) (Kd.C_below hCa hB) hca mna).mono ?_); rintro e w7 ⟨rfl, hb7⟩; have hB := below_step hB hb7) | (go_at_call 18; (with_reducible refine (same_n 10 Aa _ ca a rfl Ab _ cb b rfl _ _ (Kd.C_below hCa hB) hca (Kd.C_below hCb hB) hcb fsm).mono ?_); rintro e w7 ⟨rfl, hb7⟩; have hB := below_step hB hb7) | (go_at_call 19; (with_reducible refine (sample_n 10 Aa _ ca a rfl sm _ (Kd.C_below hCa hB) hca hsm).mono ?_); rintro e w7 ⟨v7, rfl, hR7, hb7⟩; obtain ⟨As, cs, rfl, hcs, hCs⟩ := Kd.R_reads hR7; have hB := below_step hB hb7) | (go_at_call 14; (with_reducible refine (match_n 5 none 0 0 [] rfl As _ cs sm rfl true _ (Kd.C_nil _ _) (Nat.le_refl _) hCs hcs hmm).mono ?_); rintro e w7 ⟨rfl, hb7⟩; have hB := below_step hB hb7) | (go_at_call 3; (with_reducible refine (broadsidelaw5_RelRuns.calls _).mono ?_); rintro e w7 ⟨rfl, hb7⟩; have hB := below_step hB hb7) | go_in)
      go_ret
      exact ⟨rfl, below_step hB6 hB⟩
end Go.Proofs.Ytfabnapjbgamaaa.MRelTrue
