import Derived.Test.YtallbobeehbkoaaBoxesS
import Derived.Test.YtallbobeehbkoaaBoxesH
namespace Go.Proofs.Ytallbobeehbkoaa.Boxes
open Go.RowKit Go.Proofs.YtallbobeehbkoaaW.PrintWords Go.Proofs.YtallbobeehbkoaaW.PrintLast Go.Proofs.Ytallbobeehbkoaa.PInboxPlays
set_option linter.unusedVariables false
set_option linter.unusedSimpArgs false
set_option maxHeartbeats 8000000 in
theorem shared_calls (A : Option Addr) (cp : Nat) (xs : List Int) (A1 A2 : Option Addr) (n1 n2 : Nat) (l1 l2 : List Int) (w : World) (hr : ReadsInt w .i64 A xs.length xs) (hb : xs.length * 8 ≤ 140737488351232)
    (hr1 : Kd.C (Kd.int .i64) w A1 l1.length l1) (hc1 : l1.length ≤ n1) (hr2 : Kd.C (Kd.int .i64) w A2 l2.length l2) (hc2 : l2.length ≤ n2) :
    Calls Try.prog 4 #[.slice A xs.length cp, .agg #[.slice A1 l1.length n1, .slice A2 l2.length n2]] w fun e w' => e = .returned (.bool true) ∧ Below w.heap.size w w' := by
  obtain ⟨kt, r, ht, hrl⟩ := tuple_total l1 l2
  have hu34 := Try.underlying34
  have hu36 := Try.underlying36
  go_enter Try.func4, Try.ntmps4
  go_wp2_with (first | (go_at_call 7; (with_reducible refine (new_calls _ w.heap.size (by simp)).mono ?_); rintro e w1 ⟨ga, rfl, hga, hboxa, hbel1⟩) | go_in)
  have hI0 : SInv w r ga nilS [] w1 (fun q => (w.alloc (Obj.cells #[Value.slice A1 l1.length n1, Value.slice A2 l2.length n2] 36)).heap.size ≤ q ∧ q < w1.heap.size) (fun _ => False) w.heap.size #[Value.slice A1 l1.length n1, Value.slice A2 l2.length n2] :=
    { kb := (hbel1.block w.heap.size (by simp)).trans (heap_alloc_new w _)
      box := hboxa.trim
      row := Row.nil _ _
      att := fun d hd => by simp at hd
      rng := fun d hd => by simp at hd
      apart := fun _ _ h => h
      ra := fun q hq => by cases hq
      rg := fun q hq => by cases hq
      la := fun q h => h.2
      lg := fun _ h => h.elim
      sa := fun q h => by
        have := h.1
        simp only [World.size_alloc] at this
        omega
      bel := (below_alloc (Below.refl _ _) _).trans (hbel1.mono (by simp)) }
  clear hboxa hbel1
  generalize hgk : w.heap.size = gk at hI0 ⊢
  go_loopw [6, 7] (fun v i wr => ∃ (k : Nat) (ds : List Dv) (Fa G : Nat → Prop), k ≤ xs.length ∧ k ≤ 10 ∧ ds.length = k ∧ i = .int .i64 k ∧ SInv w r ga v ds wr Fa G gk #[Value.slice A1 l1.length n1, Value.slice A2 l2.length n2]) (fun _ i _ => 10 - (intOf i).toNat)
  case atStart => exact ⟨0, [], _, _, Nat.zero_le _, Nat.zero_le _, rfl, rfl, hI0⟩
  case round =>
    clear hI0
    obtain ⟨k, ds, Fa, G, hkl, hk14, hlen, rfl, hI⟩ := hrel
    by_cases hlt : k < xs.length ∧ k < 10
    · obtain ⟨hlt, h14⟩ := hlt
      obtain ⟨ad, rfl, hcell⟩ := (hr.below hI.bel).at_ (k : Int) (by omega) (by omega)
      have hnum : (Int.toNat (k : Int)) = k := Int.toNat_natCast k
      rw [hnum] at hcell
      have hS8 : ∀ W, Below wr.heap.size wr W → W.cell? (ad.add k) = some (.int .i64 (rd xs k)) ∧ W.cell? ⟨gk, 0, none⟩ = some (.slice A1 l1.length n1) ∧ W.cell? ⟨gk, 1, none⟩ = some (.slice A2 l2.length n2) := fun W hW => by
        have hkb := (hW.block gk (blk_lt hI.kb)).trans hI.kb
        exact ⟨pw_cell_below hW hcell, (blk_cell hkb 0).trans rfl, (blk_cell hkb 1).trans rfl⟩
      have hds : ds.length ≤ 1000 := by omega
      go_wp2
      refine start_ (n := 14) (S := fun w' => w'.cell? (ad.add k) = some (.int .i64 (rd xs k)) ∧ w'.cell? ⟨gk, 0, none⟩ = some (.slice A1 l1.length n1) ∧ w'.cell? ⟨gk, 1, none⟩ = some (.slice A2 l2.length n2)) (ds := [12, 13]) #[false, false, false, false, false, false, false, false, false, false, false, false, false, false] (by kernel_rfl) rfl rfl (hS8 _ (below_drew1 (Below.refl _ _))) (fun hHeld => ?_)
      have hW0 : Below wr.heap.size wr wr.drew := below_drew1 (Below.refl _ _)
      generalize wr.drew = W0 at hW0 hHeld ⊢
      refine pure_ (i := 0) (N := some 31) (v := ?_) (a' := ?_) #[true, false, false, false, false, false, false, false, false, false, false, false, false, false] rfl rfl (by kernel_rfl) (fun _ _ _ h => h) (Or.inl ⟨by rfl, ?_⟩) ?_ ?_
      rotate_left
      · intro w'
        go_simp
        with_reducible rfl
      rotate_left
      · simp only [Act.put, List.setIfInBounds_toArray, List.set_cons_zero, List.set_cons_succ, i64_w, i32_w]
        rfl
      refine pure_ (i := 1) (N := some 32) (v := ?_) (a' := ?_) #[true, true, false, false, false, false, false, false, false, false, false, false, false, false] rfl rfl (by kernel_rfl) (fun _ _ _ h => h) (Or.inl ⟨by rfl, ?_⟩) ?_ ?_
      rotate_left
      · intro w'
        go_simp
        with_reducible rfl
      rotate_left
      · simp only [Act.put, List.setIfInBounds_toArray, List.set_cons_zero, List.set_cons_succ, i64_w, i32_w]
        rfl
      refine pure_ (i := 2) (N := some 33) (v := ?_) (a' := ?_) #[true, true, true, false, false, false, false, false, false, false, false, false, false, false] rfl rfl (by kernel_rfl) (fun _ _ _ h => h) (Or.inl ⟨by rfl, ?_⟩) ?_ ?_
      rotate_left
      · intro w'
        go_simp
        with_reducible rfl
      rotate_left
      · simp only [Act.put, List.setIfInBounds_toArray, List.set_cons_zero, List.set_cons_succ, i64_w, i32_w]
        rfl
      refine pure_ (i := 3) (N := some 34) (v := ?_) (a' := ?_) #[true, true, true, true, false, false, false, false, false, false, false, false, false, false] rfl rfl (by kernel_rfl) (fun _ _ _ h => h) (Or.inl ⟨by rfl, ?_⟩) ?_ ?_
      rotate_left
      · intro w'
        go_simp
        with_reducible rfl
      rotate_left
      · simp only [Act.put, List.setIfInBounds_toArray, List.set_cons_zero, List.set_cons_succ, i64_w, i32_w]
        rfl
      refine take_ (i := 4) (N := some 35) (v := ?_) (a' := ?_) #[true, true, true, true, true, false, false, false, false, false, false, false, false, false] rfl rfl (by kernel_rfl) (fun _ _ _ h => h) (Or.inl ⟨by rfl, ?_⟩) hHeld ?_ ?_
      rotate_left
      · rintro w' ⟨s0, s1, s2⟩
        go_simp
        with_reducible rfl
      rotate_left
      · simp only [Act.put, List.setIfInBounds_toArray, List.set_cons_zero, List.set_cons_succ, i64_w, i32_w]
        rfl
      refine pure_ (i := 6) (N := some 37) (v := ?_) (a' := ?_) #[true, true, true, true, true, false, true, false, false, false, false, false, false, false] rfl rfl (by kernel_rfl) (fun _ _ _ h => h) (Or.inl ⟨by rfl, ?_⟩) ?_ ?_
      rotate_left
      · intro w'
        go_simp
        with_reducible rfl
      rotate_left
      · simp only [Act.put, List.setIfInBounds_toArray, List.set_cons_zero, List.set_cons_succ, i64_w, i32_w]
        rfl
      refine pure_ (i := 7) (N := some 38) (v := ?_) (a' := ?_) #[true, true, true, true, true, false, true, true, false, false, false, false, false, false] rfl rfl (by kernel_rfl) (fun _ _ _ h => h) (Or.inl ⟨by rfl, ?_⟩) ?_ ?_
      rotate_left
      · intro w'
        go_simp
        with_reducible rfl
      rotate_left
      · simp only [Act.put, List.setIfInBounds_toArray, List.set_cons_zero, List.set_cons_succ, i64_w, i32_w]
        rfl
      refine take_ (i := 8) (N := some 39) (v := ?_) (a' := ?_) #[true, true, true, true, true, false, true, true, true, false, false, false, false, false] rfl rfl (by kernel_rfl) (fun _ _ _ h => h) (Or.inl ⟨by rfl, ?_⟩) hHeld ?_ ?_
      rotate_left
      · rintro w' ⟨s0, s1, s2⟩
        go_simp
        with_reducible rfl
      rotate_left
      · simp only [Act.put, List.setIfInBounds_toArray, List.set_cons_zero, List.set_cons_succ, i64_w, i32_w]
        rfl
      refine one_ (i := 5) (N := some 36) #[true, true, true, true, true, true, true, true, true, false, false, false, false, false] rfl rfl (by kernel_rfl) (by decide) (fun K hK => ?_)
      refine goes_ Try.func12 (by kernel_rfl) rfl #[.int .i64 (rd xs k), .int .i64 0, .int .i64 2] (by rfl) rfl rfl (by (try simp only [List.map_toArray, List.map_cons, List.map_nil]); first | done | rfl) ?_
      refine (broadsidebook_Within.calls (rd xs k) 0 2 (rd xs k % 3) _ (within3 _)).mono ?_
      rintro e W1 ⟨rfl, hdW1⟩
      refine ⟨_, rfl, ?_⟩
      have hW1 := below_step hW0 hdW1.below
      refine hK.out _ _ (hS8 _ hW1) (fun hHeld => ?_)
      clear hK K
      refine norm_ (a' := ?_) ?_ ?_
      rotate_left
      · show Act.put _ (some 36) _ = _
        simp only [Act.put, List.setIfInBounds_toArray, List.set_cons_zero, List.set_cons_succ, i64_w, i32_w]
        rfl
      refine one_ (i := 9) (N := some 40) #[true, true, true, true, true, true, true, true, true, true, false, false, false, false] rfl rfl (by kernel_rfl) (by decide) (fun K hK => ?_)
      refine goes_ Try.func13 (by kernel_rfl) rfl #[.agg #[.slice A1 l1.length n1, .slice A2 l2.length n2]] (by rfl) rfl rfl (by (try simp only [List.map_toArray, List.map_cons, List.map_nil]); first | done | rfl) ?_
      refine (broadsidekeep_Tuple_Tuple.calls kt A1 n1 l1 A2 n2 l2 r _ (Kd.C_below hr1 (below_step hI.bel hW1)) hc1 (Kd.C_below hr2 (below_step hI.bel hW1)) hc2 ht).mono ?_
      rintro e W2 ⟨vt, rfl, hvt, hbW2⟩
      refine ⟨_, rfl, ?_⟩
      have hW2 := below_step hW1 hbW2
      obtain ⟨At, nt, rfl, hlt_⟩ := R_form54 hvt
      refine hK.out _ _ (hS8 _ hW2) (fun hHeld => ?_)
      clear hK K
      refine norm_ (a' := ?_) ?_ ?_
      rotate_left
      · show Act.put _ (some 40) _ = _
        simp only [Act.put, List.setIfInBounds_toArray, List.set_cons_zero, List.set_cons_succ, i64_w, i32_w]
        rfl
      refine pure_ (i := 10) (N := some 41) (v := ?_) (a' := ?_) #[true, true, true, true, true, true, true, true, true, true, true, false, false, false] rfl rfl (by kernel_rfl) (fun _ _ _ h => h) (Or.inl ⟨by rfl, ?_⟩) ?_ ?_
      rotate_left
      · intro w'
        go_simp
        with_reducible rfl
      rotate_left
      · simp only [Act.put, List.setIfInBounds_toArray, List.set_cons_zero, List.set_cons_succ, i64_w, i32_w]
        rfl
      refine one_ (i := 11) (N := some 42) #[true, true, true, true, true, true, true, true, true, true, true, true, false, false] rfl rfl (by kernel_rfl) (by decide) (fun K hK => ?_)
      refine value_ (w1 := W2.alloc (.cells #[.int .i64 (rd xs k % 3), .int .i64 0, .int .i64 k, .slice At r.length nt] 29)) (v := .slice (some ⟨W2.heap.size, 0, none⟩) 1 1) (by rfl) rfl (by go_simp) ?_
      refine hK.out _ _ (hS8 _ (below_alloc hW2 _)) (fun hHeld => ?_)
      clear hK K
      refine norm_ (a' := ?_) ?_ ?_
      rotate_left
      · show Act.put _ (some 42) _ = _
        simp only [Act.put, List.setIfInBounds_toArray, List.set_cons_zero, List.set_cons_succ, i64_w, i32_w]
        rfl
      have hI1 := hI.below hW2
      refine last_ (i := 12) (N := some 43) #[true, true, true, true, true, true, true, true, true, true, true, true, true, false] rfl rfl (by kernel_rfl) (by decide) (fun K hK => ?_)
      refine step_append_cells w.heap.size (by rfl) (.tmp 31) (.tmp 42) 30 29 _ 4 48 rfl Try.underlying30 info29 rfl (by omega) (by omega) u6 _ _ [.int .i64 (rd xs k % 3), .int .i64 0, .int .i64 k, .slice At r.length nt] rfl rfl rfl (cells_plain ⟨rd xs k % 3, 0, k, At, r.length, nt⟩) (row_append hI1.row) (Below.refl w.heap.size W2) hI1.bel.size (by omega) ?_
      intro v5 w5 hown5 hb5 hgr5 hat5
      have hrow5 := row_of_own (d := ⟨rd xs k % 3, 0, k, At, r.length, nt⟩) hown5
      refine hK.out _ _ ?_
      clear hK K
      refine norm_ (a' := ?_) ?_ ?_
      rotate_left
      · show Act.put _ (some 43) _ = _
        simp only [Act.put, List.setIfInBounds_toArray, List.set_cons_zero, List.set_cons_succ, i64_w, i32_w]
        rfl
      refine pure_ (i := 13) (N := some 6) (v := ?_) (a' := ?_) #[true, true, true, true, true, true, true, true, true, true, true, true, true, true] rfl rfl (by kernel_rfl) (fun _ _ _ h => h) (Or.inl ⟨by rfl, ?_⟩) ?_ ?_
      rotate_left
      · intro w'
        go_simp
        with_reducible rfl
      rotate_left
      · simp only [Act.put, List.setIfInBounds_toArray, List.set_cons_zero, List.set_cons_succ, i64_w, i32_w]
        rfl
      refine done_ (by kernel_rfl) ?_
      have hI5 := hI.next hW2 (att_of hvt) hW1.size hlt_ hgr5 hrow5 hat5 (mod3_rng _)
      clear hI1 hHeld
      go_wp2
      go_roundw
      case rel => exact ⟨k + 1, _, _, _, by omega, by omega, by rw [List.length_append, hlen]; rfl, by go_num, hI5⟩
      case measure => simp [intOf]; omega
    · have hk : k ≤ 10 := hk14
      have hnum : (Int.toNat (k : Int)) = k := Int.toNat_natCast k
      have hwfs : ∀ d ∈ ds, wf d.c := fun d hd => wf_small _ (by have := hI.rng d hd; omega) (by have := hI.rng d hd; omega)
      have hcase : (k < xs.length ∧ ¬ k < 10) ∨ ¬ k < xs.length := by omega
      have hnl : ∀ d : List Dv, [] ++ d = d := fun d => List.nil_append d
      have hds : ds.length ≤ 1000 := by omega
      subst hlen
      rcases hcase with ⟨d1, d2⟩ | d1
      · go_wp2_with (first | (at_builtin; refine wpList_append_row rfl (.tmp 44) (.tmp 45) rfl rfl rfl (row_empty wr wr.heap.size (Nat.le_refl _)) (hI.row.below (below_alloc (Below.refl _ _) _)) (by simp) (by simp; omega) ?_; intro v2 w2 hr2 hg2 hat2; rw [hnl] at hr2; have hb2 : Below wr.heap.size wr w2 := pw_below_grown (below_alloc (Below.refl _ _) _) _ (by simp) hg2 (fun q hq => by cases hq; exact Nat.le_refl _); have hI2 := hI.below hb2; have ho2 : ∀ q, v2.ownBlock = some q → ¬ Fa q := (fun q hq hF => by have := (hr2.lt q hq).1; have := hI.la q hF; omega)) | (go_at_call 8; (with_reducible refine (put_calls hI2.box hr2 ho2 hwfs (by omega)).mono ?_); rintro e w3 ⟨rfl, hB3, hT3⟩; rw [hnl] at hB3; have hA3 := (hr2.turn hT3 ho2).any; obtain ⟨Ao, co, rfl⟩ := hr2.slice) | go_in)
        have hR3 : Row w3 w.heap.size u6 ds := hI2.row.turn hT3 hI.ra
        have hAt3 : ∀ d ∈ ds, Att G w3 w.heap.size r d := fun d hd => (hI2.att d hd).turn hT3 (fun q hq hn => hI.apart q hn hq)
        have hbel3 : Below w.heap.size w w3 := hI2.bel.trans (hT3.below hI2.bel.size hI.sa)
        have hrng := hI.rng
        have hGl := hI.lg
        have hvl : ∀ q, u6.ownBlock = some q → q < wr.heap.size := fun q hq => (hI.row.lt q hq).2
        have hol : ∀ q, (Value.slice Ao ds.length co).ownBlock = some q → wr.heap.size ≤ q ∧ q < w2.heap.size := fun q hq => hr2.lt q hq
        have hFa := hI.la
        have hap := hI.apart
        have hra := hI.ra
        have hsa := hI.sa
        have hsw := hI.bel.size
        have hs23 := hb2.size
        clear hI hI2 hT3 hr2 hg2 hat2 ho2 hb2
        generalize wr.heap.size = N2 at hA3 hGl hvl hol hFa hsw hs23
        go_loopw [52] (fun i wr2 => ∃ j : Nat, j ≤ ds.length ∧ i = .int .i64 j ∧ Any wr2 N2 (.slice Ao ds.length co) ds.length ∧ Turn (fun q => (Value.slice Ao ds.length co).ownBlock = some q) w3 wr2) (fun i _ => ds.length - (intOf i).toNat)
        case atStart => exact ⟨0, Nat.zero_le _, rfl, hA3, Turn.refl _ _⟩
        case round =>
          obtain ⟨j, hj, rfl, hany, hT⟩ := hrel
          by_cases hjl : j < ds.length
          · obtain ⟨go, cap, ego, hgo, hc⟩ := hany.at_ hjl
            cases ego
            obtain ⟨⟨uo, huo⟩, hfo⟩ := hc 2 (by omega)
            have hnj : (Int.toNat (j : Int)) = j := Int.toNat_natCast j
            go_wp2
            refine ⟨⟨j + 1, by omega, by simp, hany.set _ _ _, hT.set (by rfl) _ _⟩, ?_⟩
            simp [intOf]
            omega
          · have hje : j = ds.length := by omega
            subst hje
            have hF3 : ∀ q, (Fa q ∨ w2.heap.size ≤ q) → ¬ (Value.slice Ao ds.length co).ownBlock = some q := fun q hq ho => by
              have := hol q ho
              rcases hq with hq | hq
              · have := hFa q hq
                omega
              · omega
            have hB5 := hB3.turn hT hF3
            have hR5 : Row wr w.heap.size u6 ds := hR3.turn hT (fun q hq ho => by have := hol q ho; have := hvl q hq; omega)
            have hAt5 : ∀ d ∈ ds, Att G wr w.heap.size r d := fun d hd => (hAt3 d hd).turn hT (fun q hq ho => by have := hol q ho; have := hGl q hq; omega)
            have hbel5 : Below w.heap.size w wr := hbel3.trans (hT.below hbel3.size (fun q ho => by have := hol q ho; omega))
            clear hB3 hR3 hAt3 hbel3 hT hany hA3 hF3
            have ⟨w5, hw5⟩ : ∃ x, x = wr := ⟨wr, rfl⟩
            subst hw5
            have hnj : (Int.toNat (ds.length : Int)) = ds.length := Int.toNat_natCast _
            go_wp2
            go_loopw [61] (fun i w6 => ∃ c : Nat, c ≤ 3 ∧ i = .int .i64 c ∧ Below w5.heap.size w5 w6) (fun i _ => 3 - (intOf i).toNat)
            case atStart => exact ⟨0, Nat.zero_le _, rfl, Below.refl _ _⟩
            case round =>
              obtain ⟨c, hc3, rfl, hb6⟩ := hrel
              by_cases hcl : c < 3
              · have hnc : (Int.toNat (c : Int)) = c := Int.toNat_natCast c
                have hB6 := hB5.below hb6
                have hcw : wf (c : Int) := wf_small _ (by omega) (by omega)
                go_wp2_with (first | (go_at_call 9; (with_reducible refine (look_any hB6 (c : Int) hcw (by omega)).mono ?_); rintro e w7 ⟨A7, m7, c7, rfl, hm7, ha7, hb7⟩; have hB7 := hB6.below hb7) | (go_at_call 11; (with_reducible refine (all_any hB7 (by omega)).mono ?_); rintro e w8 ⟨A8, m8, c8, rfl, hm8, ha8, hb8⟩) | go_in)
                have hb68 : Below w5.heap.size w5 w8 := below_step (below_step hb6 hb7) hb8
                have hs6 := hb6.size
                have hs7 := hb7.size
                have ha7' : Any (w8.alloc (.cells #[.slice A7 m7 c7, .slice A8 m8 c8] 30)) w5.heap.size (.slice A7 m7 c7) m7 := ((ha7.below hb8).below (below_alloc (Below.refl _ _) _)).less (by omega)
                have ha8' : Any (w8.alloc (.cells #[.slice A7 m7 c7, .slice A8 m8 c8] 30)) w5.heap.size (.slice A8 m8 c8) m8 := (ha8.below (below_alloc (Below.refl _ _) _)).less (by omega)
                have hgs := heap_alloc_new w8 (.cells #[.slice A7 m7 c7, .slice A8 m8 c8] 30 (0, 0))
                have hbs : Below w5.heap.size w5 (w8.alloc (.cells #[.slice A7 m7 c7, .slice A8 m8 c8] 30)) := below_alloc hb68 _
                have hs8 := hb68.size
                generalize w8.heap.size = gs at hgs hs8 ⊢
                generalize w8.alloc (.cells #[.slice A7 m7 c7, .slice A8 m8 c8] 30) = w9 at ha7' ha8' hgs hbs ⊢
                clear hB6 hB7 hb6 hb7 hb8 ha7 ha8 hb68 hs6 hs7
                have hSL : SL w5 gs (.slice A7 m7 c7) m7 (.slice A8 m8 c8) m8 w9 := ⟨hbs, hgs, ha7', ha8'⟩
                clear hbs hgs ha7' ha8'
                go_loopw [71] (fun i w10 => ∃ e : Nat, e ≤ 2 ∧ i = .int .i64 e ∧ SL w5 gs (.slice A7 m7 c7) m7 (.slice A8 m8 c8) m8 w10) (fun i _ => 2 - (intOf i).toNat)
                case atStart => exact ⟨0, Nat.zero_le _, rfl, hSL⟩
                case round =>
                  clear hSL
                  obtain ⟨e, he2, rfl, hSL⟩ := hrel
                  have z0 := (blk_cell hSL.blk 0).trans rfl
                  have z1 := (blk_cell hSL.blk 1).trans rfl
                  have hee : e = 0 ∨ e = 1 ∨ e = 2 := by omega
                  rcases hee with rfl | rfl | rfl
                  · go_wp2
                    go_loopw [77] (fun i w11 => ∃ j : Nat, j ≤ m7 ∧ i = .int .i64 j ∧ SL w5 gs (.slice A7 m7 c7) m7 (.slice A8 m8 c8) m8 w11) (fun i _ => m7 - (intOf i).toNat)
                    case atStart => exact ⟨0, Nat.zero_le _, rfl, hSL⟩
                    case round =>
                      clear hSL z0 z1
                      obtain ⟨j, hj, rfl, hSL⟩ := hrel
                      have hnj : (Int.toNat (j : Int)) = j := Int.toNat_natCast j
                      by_cases hjl : j < m7
                      · obtain ⟨g, cap, eg, ⟨u, hu⟩, hfr, hset⟩ := hSL.set hSL.a7 hjl
                        cases eg
                        go_wp2
                        refine ⟨⟨j + 1, by omega, by simp, hset _⟩, ?_⟩
                        simp [intOf]
                        omega
                      · have hje : j = m7 := by omega
                        subst hje
                        go_wp2
                        exact ⟨⟨1, by omega, rfl, hSL⟩, by simp [intOf]⟩
                  · go_wp2
                    go_loopw [77] (fun i w11 => ∃ j : Nat, j ≤ m8 ∧ i = .int .i64 j ∧ SL w5 gs (.slice A7 m7 c7) m7 (.slice A8 m8 c8) m8 w11) (fun i _ => m8 - (intOf i).toNat)
                    case atStart => exact ⟨0, Nat.zero_le _, rfl, hSL⟩
                    case round =>
                      clear hSL z0 z1
                      obtain ⟨j, hj, rfl, hSL⟩ := hrel
                      have hnj : (Int.toNat (j : Int)) = j := Int.toNat_natCast j
                      by_cases hjl : j < m8
                      · obtain ⟨g, cap, eg, ⟨u, hu⟩, hfr, hset⟩ := hSL.set hSL.a8 hjl
                        cases eg
                        go_wp2
                        refine ⟨⟨j + 1, by omega, by simp, hset _⟩, ?_⟩
                        simp [intOf]
                        omega
                      · have hje : j = m8 := by omega
                        subst hje
                        go_wp2
                        exact ⟨⟨2, by omega, rfl, hSL⟩, by simp [intOf]⟩
                  · go_wp2
                    go_roundw
                    case rel => exact ⟨c + 1, by omega, by go_num, hSL.bel⟩
                    case measure => simp [intOf]; omega
              · have hce : c = 3 := by omega
                subst hce
                have hB6 := hB5.below hb6
                have hR6 := hR5.below hb6
                have hAt6 : ∀ d ∈ ds, Att G wr w.heap.size r d := fun d hd => (hAt5 d hd).turn (S := fun _ => False) (Turn.of_below hb6) (fun _ _ x => x)
                have hbel6 := below_step hbel5 hb6
                clear hB5 hR5 hAt5 hbel5 hb6
                have hrM : ∀ d ∈ ds, r.length ≤ 1048576 := fun _ _ => by omega
                go_wp2_with (first | (go_at_call 11; (with_reducible refine (all_calls hB6 (by omega)).mono ?_); rintro e w7 ⟨v7, rfl, hr7, hb7⟩; have hB7 := hB6.below hb7; have hR7 := hR6.below hb7; have hAt7 : ∀ d ∈ ds, Att G w7 w.heap.size r d := (fun d hd => (hAt6 d hd).turn (S := fun _ => False) (Turn.of_below hb7) (fun _ _ x => x)); have hbel7 := below_step hbel6 hb7) | (go_at_call 14; (with_reducible refine (gots_calls hr7 hR7 (fun _ => r) (fun d hd => (hAt7 d hd).reads) hrM (by omega)).mono ?_); rintro e w8 ⟨rfl, hb8⟩; have hB8 := hB7.below hb8; have hR8 := hR7.below hb8; have hAt8 : ∀ d ∈ ds, Att G w8 w.heap.size r d := (fun d hd => (hAt7 d hd).turn (S := fun _ => False) (Turn.of_below hb8) (fun _ _ x => x)); have hbel8 := below_step hbel7 hb8) | go_in)
                have hI6 : ∃ m : Int → List Dv, (∀ q : Int, ((0 : Nat) : Int) ≤ q → m q = ds.filter (fun d => d.c == q)) ∧ Box w8 w.heap.size ga (0 + ds.length) (fun q => Fa q ∨ w2.heap.size ≤ q) m ds := ⟨_, fun q _ => by simp [putTo], hB8⟩
                have hn6 : (ds.filter (fun d => decide (d.c < ((0 : Nat) : Int)))).length = 0 := by
                  rw [List.length_eq_zero_iff, List.filter_eq_nil_iff]
                  intro d hd
                  have := hrng d hd
                  simp
                  omega
                clear hB6 hB7 hB8 hR6 hR7 hAt6 hAt7 hr7 hb7 hb8 hbel6 hbel7
                go_loopw [14, 92] (fun n i w9 => ∃ c : Nat, c ≤ 3 ∧ i = .int .i64 c ∧ n = .int .i64 ((ds.filter (fun d => decide (d.c < (c : Int)))).length : Nat) ∧ (∃ m : Int → List Dv, (∀ q : Int, (c : Int) ≤ q → m q = ds.filter (fun d => d.c == q)) ∧ Box w9 w.heap.size ga (0 + ds.length) (fun q => Fa q ∨ w2.heap.size ≤ q) m ds) ∧ Row w9 w.heap.size u6 ds ∧ (∀ d ∈ ds, Att G w9 w.heap.size r d) ∧ Below w.heap.size w w9) (fun _ i _ => 3 - (intOf i).toNat)
                case atStart => exact ⟨0, Nat.zero_le _, rfl, by rw [hn6]; rfl, hI6, hR8, hAt8, hbel8⟩
                case round =>
                  clear hI6 hR8 hAt8 hbel8 hn6
                  obtain ⟨c, hc3, rfl, hn, ⟨m, hm, hB9⟩, hR9, hAt9, hbel9⟩ := hrel
                  by_cases hcl : c < 3
                  · subst hn
                    have hnc : (Int.toNat (c : Int)) = c := Int.toNat_natCast c
                    have hcw : wf (c : Int) := wf_small _ (by omega) (by omega)
                    have hBt := hB9.trim
                    have hz : (strike m (c : Int) (c : Int)).length = 0 := by simp [strike]
                    have hmc : ∀ d ∈ m (c : Int), d ∈ ds := fun d hd => by rw [hm _ (Int.le_refl _)] at hd; exact (List.mem_filter.1 hd).1
                    have hml : (m (c : Int)).length ≤ 1048576 := by rw [hm _ (Int.le_refl _)]; exact Nat.le_trans (List.length_filter_le _ _) (by omega)
                    have hmr : ∀ d ∈ m (c : Int), r.length ≤ 1048576 := fun _ _ => by omega
                    have hmK : Hid (∀ q : Int, (c : Int) ≤ q → m q = ds.filter (fun d => d.c == q)) := ⟨hm⟩
                    clear hm
                    have hFt : ∀ q, ((Fa q ∨ w2.heap.size ≤ q) ∧ q < wr.heap.size) → (¬ G q) ∧ ¬ u6.ownBlock = some q ∧ w.heap.size ≤ q := fun q hq => by
                      rcases hq.1 with h | h
                      · exact ⟨hap q h, fun e => hra q e h, hsa q h⟩
                      · exact ⟨fun e => by have := hGl q e; omega, fun e => by have := hvl q e; omega, by omega⟩
                    go_wp2_with (first | (go_at_call 9; (with_reducible refine (look_calls hBt (c : Int) hcw (by omega)).mono ?_); rintro e w10 ⟨v10, rfl, hr10, hb10⟩; have hB10 := hBt.below hb10; have hR10 := hR9.below hb10; have hbel10 := below_step hbel9 hb10; have hAt10 : ∀ d ∈ ds, Att G w10 w.heap.size r d := (fun d hd => (hAt9 d hd).turn (S := fun _ => False) (Turn.of_below hb10) (fun _ _ x => x))) | (go_at_call 10; (with_reducible refine (drain_calls hB10 (c : Int) hcw (by omega)).mono ?_); rintro e w11 ⟨v11, rfl, hr11, hB11, hT11⟩; obtain ⟨A11, c11, e11⟩ := hr11.slice; subst e11; have hr10' := hr10.turn hT11 (fun q hq hF => by have := (hr10.lt q hq).1; omega); have hR11 := hR10.turn hT11 (fun q hq hF => (hFt q hF).2.1 hq); have hAt11 : ∀ d ∈ ds, Att G w11 w.heap.size r d := (fun d hd => (hAt10 d hd).turn hT11 (fun q hq hF => (hFt q hF).1 hq)); have hbel11 := hbel10.trans (hT11.below hbel10.size (fun q hq => (hFt q hq).2.2))) | (go_at_call 14; (with_reducible refine (gots_calls hr10' hr11 (fun _ => r) (fun d hd => (hAt11 d (hmc d hd)).reads) hmr hml).mono ?_); rintro e w12 ⟨rfl, hb12⟩; have hB12 := hB11.below hb12; have hR12 := hR11.below hb12; have hAt12 : ∀ d ∈ ds, Att G w12 w.heap.size r d := (fun d hd => (hAt11 d hd).turn (S := fun _ => False) (Turn.of_below hb12) (fun _ _ x => x)); have hbel12 := below_step hbel11 hb12) | (go_at_call 9; (with_reducible refine (look_calls hB12 (c : Int) hcw (by omega)).mono ?_); rintro e w13 ⟨v13, rfl, hr13, hb13⟩; have hB13 := hB12.below hb13; have hR13 := hR12.below hb13; have hbel13 := below_step hbel12 hb13; have hAt13 : ∀ d ∈ ds, Att G w13 w.heap.size r d := (fun d hd => (hAt12 d hd).turn (S := fun _ => False) (Turn.of_below hb13) (fun _ _ x => x)); obtain ⟨A13, c13, e13⟩ := hr13.slice; rw [hz] at e13; subst e13) | go_in)
                    refine ⟨⟨c + 1, by omega, by go_num, ?_, ⟨strike m c, fun q hq => ?_, hB13.wider (fun q hq => hq.1) (fun q hq => hq.elim (hsa q) (fun h => by omega))⟩, hR13, hAt13, hbel13⟩, ?_⟩
                    · rw [filter_next ds c, hmK.out _ (Int.le_refl _)]
                      have h1 := List.length_filter_le (fun d : Dv => decide (d.c < (c : Int))) ds
                      have h2 := List.length_filter_le (fun d : Dv => d.c == (c : Int)) ds
                      rw [Go.IntWalk.wrap64_in _ (by omega)]
                      simp
                    · rw [strike_ne _ (by omega)]
                      exact hmK.out q (by omega)
                    · simp [intOf]; omega
                  · have hce : c = 3 := by omega
                    subst hce
                    rw [filter_all ds (fun d hd => (hrng d hd).2)] at hn
                    subst hn
                    clear hm
                    have hBt := hB9.trim
                    obtain ⟨A6, c6, rfl⟩ := hR9.slice
                    go_wp2_with (first | (go_at_call 11; (with_reducible refine (all_calls hBt (by omega)).mono ?_); rintro e w10 ⟨v10, rfl, hr10, hb10⟩; have hB10 := hBt.below hb10; have hR10 := hR9.below hb10; have hbel10 := below_step hbel9 hb10; have hAt10 : ∀ d ∈ ds, Att G w10 w.heap.size r d := (fun d hd => (hAt9 d hd).turn (S := fun _ => False) (Turn.of_below hb10) (fun _ _ x => x))) | (go_at_call 14; (with_reducible refine (gots_calls hr10 hR10 (fun _ => r) (fun d hd => (hAt10 d hd).reads) hrM (by omega)).mono ?_); rintro e w12 ⟨rfl, hb12⟩; have hbel12 := below_step hbel10 hb12) | (go_at_call 3; (with_reducible refine (runs_calls _).mono ?_); rintro e w13 ⟨rfl, hb13⟩; have hbel13 := below_step hbel12 hb13) | go_in)
                    go_ret
                    exact ⟨rfl, hbel13⟩
      · go_wp2_with (first | (at_builtin; refine wpList_append_row rfl (.tmp 44) (.tmp 45) rfl rfl rfl (row_empty wr wr.heap.size (Nat.le_refl _)) (hI.row.below (below_alloc (Below.refl _ _) _)) (by simp) (by simp; omega) ?_; intro v2 w2 hr2 hg2 hat2; rw [hnl] at hr2; have hb2 : Below wr.heap.size wr w2 := pw_below_grown (below_alloc (Below.refl _ _) _) _ (by simp) hg2 (fun q hq => by cases hq; exact Nat.le_refl _); have hI2 := hI.below hb2; have ho2 : ∀ q, v2.ownBlock = some q → ¬ Fa q := (fun q hq hF => by have := (hr2.lt q hq).1; have := hI.la q hF; omega)) | (go_at_call 8; (with_reducible refine (put_calls hI2.box hr2 ho2 hwfs (by omega)).mono ?_); rintro e w3 ⟨rfl, hB3, hT3⟩; rw [hnl] at hB3; have hA3 := (hr2.turn hT3 ho2).any; obtain ⟨Ao, co, rfl⟩ := hr2.slice) | go_in)
        have hR3 : Row w3 w.heap.size u6 ds := hI2.row.turn hT3 hI.ra
        have hAt3 : ∀ d ∈ ds, Att G w3 w.heap.size r d := fun d hd => (hI2.att d hd).turn hT3 (fun q hq hn => hI.apart q hn hq)
        have hbel3 : Below w.heap.size w w3 := hI2.bel.trans (hT3.below hI2.bel.size hI.sa)
        have hrng := hI.rng
        have hGl := hI.lg
        have hvl : ∀ q, u6.ownBlock = some q → q < wr.heap.size := fun q hq => (hI.row.lt q hq).2
        have hol : ∀ q, (Value.slice Ao ds.length co).ownBlock = some q → wr.heap.size ≤ q ∧ q < w2.heap.size := fun q hq => hr2.lt q hq
        have hFa := hI.la
        have hap := hI.apart
        have hra := hI.ra
        have hsa := hI.sa
        have hsw := hI.bel.size
        have hs23 := hb2.size
        clear hI hI2 hT3 hr2 hg2 hat2 ho2 hb2
        generalize wr.heap.size = N2 at hA3 hGl hvl hol hFa hsw hs23
        go_loopw [52] (fun i wr2 => ∃ j : Nat, j ≤ ds.length ∧ i = .int .i64 j ∧ Any wr2 N2 (.slice Ao ds.length co) ds.length ∧ Turn (fun q => (Value.slice Ao ds.length co).ownBlock = some q) w3 wr2) (fun i _ => ds.length - (intOf i).toNat)
        case atStart => exact ⟨0, Nat.zero_le _, rfl, hA3, Turn.refl _ _⟩
        case round =>
          obtain ⟨j, hj, rfl, hany, hT⟩ := hrel
          by_cases hjl : j < ds.length
          · obtain ⟨go, cap, ego, hgo, hc⟩ := hany.at_ hjl
            cases ego
            obtain ⟨⟨uo, huo⟩, hfo⟩ := hc 2 (by omega)
            have hnj : (Int.toNat (j : Int)) = j := Int.toNat_natCast j
            go_wp2
            refine ⟨⟨j + 1, by omega, by simp, hany.set _ _ _, hT.set (by rfl) _ _⟩, ?_⟩
            simp [intOf]
            omega
          · have hje : j = ds.length := by omega
            subst hje
            have hF3 : ∀ q, (Fa q ∨ w2.heap.size ≤ q) → ¬ (Value.slice Ao ds.length co).ownBlock = some q := fun q hq ho => by
              have := hol q ho
              rcases hq with hq | hq
              · have := hFa q hq
                omega
              · omega
            have hB5 := hB3.turn hT hF3
            have hR5 : Row wr w.heap.size u6 ds := hR3.turn hT (fun q hq ho => by have := hol q ho; have := hvl q hq; omega)
            have hAt5 : ∀ d ∈ ds, Att G wr w.heap.size r d := fun d hd => (hAt3 d hd).turn hT (fun q hq ho => by have := hol q ho; have := hGl q hq; omega)
            have hbel5 : Below w.heap.size w wr := hbel3.trans (hT.below hbel3.size (fun q ho => by have := hol q ho; omega))
            clear hB3 hR3 hAt3 hbel3 hT hany hA3 hF3
            have ⟨w5, hw5⟩ : ∃ x, x = wr := ⟨wr, rfl⟩
            subst hw5
            have hnj : (Int.toNat (ds.length : Int)) = ds.length := Int.toNat_natCast _
            go_wp2
            go_loopw [61] (fun i w6 => ∃ c : Nat, c ≤ 3 ∧ i = .int .i64 c ∧ Below w5.heap.size w5 w6) (fun i _ => 3 - (intOf i).toNat)
            case atStart => exact ⟨0, Nat.zero_le _, rfl, Below.refl _ _⟩
            case round =>
              obtain ⟨c, hc3, rfl, hb6⟩ := hrel
              by_cases hcl : c < 3
              · have hnc : (Int.toNat (c : Int)) = c := Int.toNat_natCast c
                have hB6 := hB5.below hb6
                have hcw : wf (c : Int) := wf_small _ (by omega) (by omega)
                go_wp2_with (first | (go_at_call 9; (with_reducible refine (look_any hB6 (c : Int) hcw (by omega)).mono ?_); rintro e w7 ⟨A7, m7, c7, rfl, hm7, ha7, hb7⟩; have hB7 := hB6.below hb7) | (go_at_call 11; (with_reducible refine (all_any hB7 (by omega)).mono ?_); rintro e w8 ⟨A8, m8, c8, rfl, hm8, ha8, hb8⟩) | go_in)
                have hb68 : Below w5.heap.size w5 w8 := below_step (below_step hb6 hb7) hb8
                have hs6 := hb6.size
                have hs7 := hb7.size
                have ha7' : Any (w8.alloc (.cells #[.slice A7 m7 c7, .slice A8 m8 c8] 30)) w5.heap.size (.slice A7 m7 c7) m7 := ((ha7.below hb8).below (below_alloc (Below.refl _ _) _)).less (by omega)
                have ha8' : Any (w8.alloc (.cells #[.slice A7 m7 c7, .slice A8 m8 c8] 30)) w5.heap.size (.slice A8 m8 c8) m8 := (ha8.below (below_alloc (Below.refl _ _) _)).less (by omega)
                have hgs := heap_alloc_new w8 (.cells #[.slice A7 m7 c7, .slice A8 m8 c8] 30 (0, 0))
                have hbs : Below w5.heap.size w5 (w8.alloc (.cells #[.slice A7 m7 c7, .slice A8 m8 c8] 30)) := below_alloc hb68 _
                have hs8 := hb68.size
                generalize w8.heap.size = gs at hgs hs8 ⊢
                generalize w8.alloc (.cells #[.slice A7 m7 c7, .slice A8 m8 c8] 30) = w9 at ha7' ha8' hgs hbs ⊢
                clear hB6 hB7 hb6 hb7 hb8 ha7 ha8 hb68 hs6 hs7
                have hSL : SL w5 gs (.slice A7 m7 c7) m7 (.slice A8 m8 c8) m8 w9 := ⟨hbs, hgs, ha7', ha8'⟩
                clear hbs hgs ha7' ha8'
                go_loopw [71] (fun i w10 => ∃ e : Nat, e ≤ 2 ∧ i = .int .i64 e ∧ SL w5 gs (.slice A7 m7 c7) m7 (.slice A8 m8 c8) m8 w10) (fun i _ => 2 - (intOf i).toNat)
                case atStart => exact ⟨0, Nat.zero_le _, rfl, hSL⟩
                case round =>
                  clear hSL
                  obtain ⟨e, he2, rfl, hSL⟩ := hrel
                  have z0 := (blk_cell hSL.blk 0).trans rfl
                  have z1 := (blk_cell hSL.blk 1).trans rfl
                  have hee : e = 0 ∨ e = 1 ∨ e = 2 := by omega
                  rcases hee with rfl | rfl | rfl
                  · go_wp2
                    go_loopw [77] (fun i w11 => ∃ j : Nat, j ≤ m7 ∧ i = .int .i64 j ∧ SL w5 gs (.slice A7 m7 c7) m7 (.slice A8 m8 c8) m8 w11) (fun i _ => m7 - (intOf i).toNat)
                    case atStart => exact ⟨0, Nat.zero_le _, rfl, hSL⟩
                    case round =>
                      clear hSL z0 z1
                      obtain ⟨j, hj, rfl, hSL⟩ := hrel
                      have hnj : (Int.toNat (j : Int)) = j := Int.toNat_natCast j
                      by_cases hjl : j < m7
                      · obtain ⟨g, cap, eg, ⟨u, hu⟩, hfr, hset⟩ := hSL.set hSL.a7 hjl
                        cases eg
                        go_wp2
                        refine ⟨⟨j + 1, by omega, by simp, hset _⟩, ?_⟩
                        simp [intOf]
                        omega
                      · have hje : j = m7 := by omega
                        subst hje
                        go_wp2
                        exact ⟨⟨1, by omega, rfl, hSL⟩, by simp [intOf]⟩
                  · go_wp2
                    go_loopw [77] (fun i w11 => ∃ j : Nat, j ≤ m8 ∧ i = .int .i64 j ∧ SL w5 gs (.slice A7 m7 c7) m7 (.slice A8 m8 c8) m8 w11) (fun i _ => m8 - (intOf i).toNat)
                    case atStart => exact ⟨0, Nat.zero_le _, rfl, hSL⟩
                    case round =>
                      clear hSL z0 z1
                      obtain ⟨j, hj, rfl, hSL⟩ := hrel
                      have hnj : (Int.toNat (j : Int)) = j := Int.toNat_natCast j
                      by_cases hjl : j < m8
                      · obtain ⟨g, cap, eg, ⟨u, hu⟩, hfr, hset⟩ := hSL.set hSL.a8 hjl
                        cases eg
                        go_wp2
                        refine ⟨⟨j + 1, by omega, by simp, hset _⟩, ?_⟩
                        simp [intOf]
                        omega
                      · have hje : j = m8 := by omega
                        subst hje
                        go_wp2
                        exact ⟨⟨2, by omega, rfl, hSL⟩, by simp [intOf]⟩
                  · go_wp2
                    go_roundw
                    case rel => exact ⟨c + 1, by omega, by go_num, hSL.bel⟩
                    case measure => simp [intOf]; omega
              · have hce : c = 3 := by omega
                subst hce
                have hB6 := hB5.below hb6
                have hR6 := hR5.below hb6
                have hAt6 : ∀ d ∈ ds, Att G wr w.heap.size r d := fun d hd => (hAt5 d hd).turn (S := fun _ => False) (Turn.of_below hb6) (fun _ _ x => x)
                have hbel6 := below_step hbel5 hb6
                clear hB5 hR5 hAt5 hbel5 hb6
                have hrM : ∀ d ∈ ds, r.length ≤ 1048576 := fun _ _ => by omega
                go_wp2_with (first | (go_at_call 11; (with_reducible refine (all_calls hB6 (by omega)).mono ?_); rintro e w7 ⟨v7, rfl, hr7, hb7⟩; have hB7 := hB6.below hb7; have hR7 := hR6.below hb7; have hAt7 : ∀ d ∈ ds, Att G w7 w.heap.size r d := (fun d hd => (hAt6 d hd).turn (S := fun _ => False) (Turn.of_below hb7) (fun _ _ x => x)); have hbel7 := below_step hbel6 hb7) | (go_at_call 14; (with_reducible refine (gots_calls hr7 hR7 (fun _ => r) (fun d hd => (hAt7 d hd).reads) hrM (by omega)).mono ?_); rintro e w8 ⟨rfl, hb8⟩; have hB8 := hB7.below hb8; have hR8 := hR7.below hb8; have hAt8 : ∀ d ∈ ds, Att G w8 w.heap.size r d := (fun d hd => (hAt7 d hd).turn (S := fun _ => False) (Turn.of_below hb8) (fun _ _ x => x)); have hbel8 := below_step hbel7 hb8) | go_in)
                have hI6 : ∃ m : Int → List Dv, (∀ q : Int, ((0 : Nat) : Int) ≤ q → m q = ds.filter (fun d => d.c == q)) ∧ Box w8 w.heap.size ga (0 + ds.length) (fun q => Fa q ∨ w2.heap.size ≤ q) m ds := ⟨_, fun q _ => by simp [putTo], hB8⟩
                have hn6 : (ds.filter (fun d => decide (d.c < ((0 : Nat) : Int)))).length = 0 := by
                  rw [List.length_eq_zero_iff, List.filter_eq_nil_iff]
                  intro d hd
                  have := hrng d hd
                  simp
                  omega
                clear hB6 hB7 hB8 hR6 hR7 hAt6 hAt7 hr7 hb7 hb8 hbel6 hbel7
                go_loopw [14, 92] (fun n i w9 => ∃ c : Nat, c ≤ 3 ∧ i = .int .i64 c ∧ n = .int .i64 ((ds.filter (fun d => decide (d.c < (c : Int)))).length : Nat) ∧ (∃ m : Int → List Dv, (∀ q : Int, (c : Int) ≤ q → m q = ds.filter (fun d => d.c == q)) ∧ Box w9 w.heap.size ga (0 + ds.length) (fun q => Fa q ∨ w2.heap.size ≤ q) m ds) ∧ Row w9 w.heap.size u6 ds ∧ (∀ d ∈ ds, Att G w9 w.heap.size r d) ∧ Below w.heap.size w w9) (fun _ i _ => 3 - (intOf i).toNat)
                case atStart => exact ⟨0, Nat.zero_le _, rfl, by rw [hn6]; rfl, hI6, hR8, hAt8, hbel8⟩
                case round =>
                  clear hI6 hR8 hAt8 hbel8 hn6
                  obtain ⟨c, hc3, rfl, hn, ⟨m, hm, hB9⟩, hR9, hAt9, hbel9⟩ := hrel
                  by_cases hcl : c < 3
                  · subst hn
                    have hnc : (Int.toNat (c : Int)) = c := Int.toNat_natCast c
                    have hcw : wf (c : Int) := wf_small _ (by omega) (by omega)
                    have hBt := hB9.trim
                    have hz : (strike m (c : Int) (c : Int)).length = 0 := by simp [strike]
                    have hmc : ∀ d ∈ m (c : Int), d ∈ ds := fun d hd => by rw [hm _ (Int.le_refl _)] at hd; exact (List.mem_filter.1 hd).1
                    have hml : (m (c : Int)).length ≤ 1048576 := by rw [hm _ (Int.le_refl _)]; exact Nat.le_trans (List.length_filter_le _ _) (by omega)
                    have hmr : ∀ d ∈ m (c : Int), r.length ≤ 1048576 := fun _ _ => by omega
                    have hmK : Hid (∀ q : Int, (c : Int) ≤ q → m q = ds.filter (fun d => d.c == q)) := ⟨hm⟩
                    clear hm
                    have hFt : ∀ q, ((Fa q ∨ w2.heap.size ≤ q) ∧ q < wr.heap.size) → (¬ G q) ∧ ¬ u6.ownBlock = some q ∧ w.heap.size ≤ q := fun q hq => by
                      rcases hq.1 with h | h
                      · exact ⟨hap q h, fun e => hra q e h, hsa q h⟩
                      · exact ⟨fun e => by have := hGl q e; omega, fun e => by have := hvl q e; omega, by omega⟩
                    go_wp2_with (first | (go_at_call 9; (with_reducible refine (look_calls hBt (c : Int) hcw (by omega)).mono ?_); rintro e w10 ⟨v10, rfl, hr10, hb10⟩; have hB10 := hBt.below hb10; have hR10 := hR9.below hb10; have hbel10 := below_step hbel9 hb10; have hAt10 : ∀ d ∈ ds, Att G w10 w.heap.size r d := (fun d hd => (hAt9 d hd).turn (S := fun _ => False) (Turn.of_below hb10) (fun _ _ x => x))) | (go_at_call 10; (with_reducible refine (drain_calls hB10 (c : Int) hcw (by omega)).mono ?_); rintro e w11 ⟨v11, rfl, hr11, hB11, hT11⟩; obtain ⟨A11, c11, e11⟩ := hr11.slice; subst e11; have hr10' := hr10.turn hT11 (fun q hq hF => by have := (hr10.lt q hq).1; omega); have hR11 := hR10.turn hT11 (fun q hq hF => (hFt q hF).2.1 hq); have hAt11 : ∀ d ∈ ds, Att G w11 w.heap.size r d := (fun d hd => (hAt10 d hd).turn hT11 (fun q hq hF => (hFt q hF).1 hq)); have hbel11 := hbel10.trans (hT11.below hbel10.size (fun q hq => (hFt q hq).2.2))) | (go_at_call 14; (with_reducible refine (gots_calls hr10' hr11 (fun _ => r) (fun d hd => (hAt11 d (hmc d hd)).reads) hmr hml).mono ?_); rintro e w12 ⟨rfl, hb12⟩; have hB12 := hB11.below hb12; have hR12 := hR11.below hb12; have hAt12 : ∀ d ∈ ds, Att G w12 w.heap.size r d := (fun d hd => (hAt11 d hd).turn (S := fun _ => False) (Turn.of_below hb12) (fun _ _ x => x)); have hbel12 := below_step hbel11 hb12) | (go_at_call 9; (with_reducible refine (look_calls hB12 (c : Int) hcw (by omega)).mono ?_); rintro e w13 ⟨v13, rfl, hr13, hb13⟩; have hB13 := hB12.below hb13; have hR13 := hR12.below hb13; have hbel13 := below_step hbel12 hb13; have hAt13 : ∀ d ∈ ds, Att G w13 w.heap.size r d := (fun d hd => (hAt12 d hd).turn (S := fun _ => False) (Turn.of_below hb13) (fun _ _ x => x)); obtain ⟨A13, c13, e13⟩ := hr13.slice; rw [hz] at e13; subst e13) | go_in)
                    refine ⟨⟨c + 1, by omega, by go_num, ?_, ⟨strike m c, fun q hq => ?_, hB13.wider (fun q hq => hq.1) (fun q hq => hq.elim (hsa q) (fun h => by omega))⟩, hR13, hAt13, hbel13⟩, ?_⟩
                    · rw [filter_next ds c, hmK.out _ (Int.le_refl _)]
                      have h1 := List.length_filter_le (fun d : Dv => decide (d.c < (c : Int))) ds
                      have h2 := List.length_filter_le (fun d : Dv => d.c == (c : Int)) ds
                      rw [Go.IntWalk.wrap64_in _ (by omega)]
                      simp
                    · rw [strike_ne _ (by omega)]
                      exact hmK.out q (by omega)
                    · simp [intOf]; omega
                  · have hce : c = 3 := by omega
                    subst hce
                    rw [filter_all ds (fun d hd => (hrng d hd).2)] at hn
                    subst hn
                    clear hm
                    have hBt := hB9.trim
                    obtain ⟨A6, c6, rfl⟩ := hR9.slice
                    go_wp2_with (first | (go_at_call 11; (with_reducible refine (all_calls hBt (by omega)).mono ?_); rintro e w10 ⟨v10, rfl, hr10, hb10⟩; have hB10 := hBt.below hb10; have hR10 := hR9.below hb10; have hbel10 := below_step hbel9 hb10; have hAt10 : ∀ d ∈ ds, Att G w10 w.heap.size r d := (fun d hd => (hAt9 d hd).turn (S := fun _ => False) (Turn.of_below hb10) (fun _ _ x => x))) | (go_at_call 14; (with_reducible refine (gots_calls hr10 hR10 (fun _ => r) (fun d hd => (hAt10 d hd).reads) hrM (by omega)).mono ?_); rintro e w12 ⟨rfl, hb12⟩; have hbel12 := below_step hbel10 hb12) | (go_at_call 3; (with_reducible refine (runs_calls _).mono ?_); rintro e w13 ⟨rfl, hb13⟩; have hbel13 := below_step hbel12 hb13) | go_in)
                    go_ret
                    exact ⟨rfl, hbel13⟩
end Go.Proofs.Ytallbobeehbkoaa.Boxes
