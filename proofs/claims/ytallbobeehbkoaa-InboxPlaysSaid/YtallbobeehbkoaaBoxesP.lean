import Derived.Test.YtallbobeehbkoaaBoxesL
namespace Go.Proofs.Ytallbobeehbkoaa.Boxes
open Go.RowKit Go.Proofs.YtallbobeehbkoaaW.PrintWords Go.Proofs.YtallbobeehbkoaaW.PrintLast Go.Proofs.Ytallbobeehbkoaa.PInboxPlays
set_option linter.unusedVariables false
set_option linter.unusedSimpArgs false
set_option maxRecDepth 100000 in
set_option maxHeartbeats 8000000 in
theorem plays_calls (A : Option Addr) (cp : Nat) (xs : List Int) (A1 A2 : Option Addr) (n1 n2 : Nat) (l1 l2 : List Int) (w : World) (hr : ReadsInt w .i64 A xs.length xs) (hb : xs.length * 8 ≤ 140737488351232)
    (hr1 : Kd.C (Kd.int .i64) w A1 l1.length l1) (hc1 : l1.length ≤ n1) (hr2 : Kd.C (Kd.int .i64) w A2 l2.length l2) (hc2 : l2.length ≤ n2) :
    Calls Try.prog 6 #[.slice A xs.length cp, .agg #[.slice A1 l1.length n1, .slice A2 l2.length n2]] w fun e w' => e = .returned (.bool true) ∧ Below w.heap.size w w' := by
  obtain ⟨kt, r, ht, hrl⟩ := tuple_total l1 l2
  have hu34 := Try.underlying34
  have hu36 := Try.underlying36
  have hmm := @run_makeMap Try.prog
  go_enter Try.func6, Try.ntmps6
  go_wp2_with (first | (go_at_call 7; (with_reducible refine (new_calls _ w.heap.size (by simp)).mono ?_); rintro e w1 ⟨gb, rfl, hgb, hboxa, hbel1⟩) | go_in)
  have hz1 : w.heap.size + 1 ≤ w1.heap.size := by have := hbel1.size; simp at this; exact this
  have hbt : Box (w1.alloc (.map #[] 0)) w.heap.size gb 0 (fun q => (w.heap.size + 1 ≤ q ∧ q < w1.heap.size)) (fun _ => []) [] := ((hboxa.trim).below (below_alloc (Below.refl _ _) _)).wider (fun q hq => by simpa using hq) (fun q hq => by omega)
  have hP0 : PR w r w1.heap.size 0 nilS [] (fun _ => []) (fun q => (w.heap.size + 1 ≤ q ∧ q < w1.heap.size)) (w1.alloc (.map #[] 0)) (fun q => q = w1.heap.size) (fun _ => False) w.heap.size #[Value.slice A1 l1.length n1, Value.slice A2 l2.length n2] :=
    { kb := (((below_alloc (Below.refl w1.heap.size w1) (.map #[] 0)).block w.heap.size (by omega)).trans (hbel1.block w.heap.size (by simp))).trans (heap_alloc_new w _)
      mb := ⟨fun _ => nilS, .map [], { map := World.ownsMap_made w1 Try.prog 3 rawR, at_ := fun _ _ => rfl, row := fun _ => Row.nil _ _, Mb := rfl, Mm := fun _ _ h => by cases h }⟩
      row := Row.nil _ _
      att := fun d hd => by simp at hd
      sub := fun q d hd => by simp at hd
      rng := fun _ _ => rfl
      lm := fun _ => Nat.le_refl _
      la := Nat.le_refl _
      XM := fun q hq => ⟨by omega, fun h => h, by omega, fun h => by cases h⟩
      GM := fun h => h
      UM := fun q hq => by cases hq
      lt := fun q hq => by
        rcases hq with hq | hq | hq
        · simp; omega
        · exact hq.elim
        · simp; omega
      Xs := fun q hq => by omega
      Ms := fun q hq => by omega
      bel := below_alloc ((below_alloc (Below.refl _ _) _).trans (hbel1.mono (by simp))) _ }
  clear hboxa hbel1 hmm
  generalize hgk : w.heap.size = gk at hP0 ⊢
  have hX0 : ∃ F : Nat → Prop, Box (w1.alloc (.map #[] 0)) w.heap.size gb 0 F (fun _ => []) [] ∧ ∃ M G, PR w r w1.heap.size 0 nilS [] (fun _ => []) F (w1.alloc (.map #[] 0)) M G gk #[Value.slice A1 l1.length n1, Value.slice A2 l2.length n2] := ⟨_, hbt, _, _, by rw [← hgk] at hP0 ⊢; exact hP0⟩
  clear hbt hP0
  generalize w1.heap.size = bm at hX0 hz1 ⊢
  go_loopw [7, 8] (fun v i wr => ∃ (k : Nat) (all : List Dv) (m : Int → List Dv), k ≤ xs.length ∧ k ≤ 30 ∧ i = .int .i64 k ∧ ∃ F : Nat → Prop, Box wr w.heap.size gb (2 * k) F m all ∧ ∃ M G, PR w r bm (4 * k) v all m F wr M G gk #[Value.slice A1 l1.length n1, Value.slice A2 l2.length n2]) (fun _ i _ => 30 - (intOf i).toNat)
  case atStart => exact ⟨0, [], _, Nat.zero_le _, Nat.zero_le _, rfl, hX0⟩
  case round =>
    clear hX0
    obtain ⟨k, all, m, hkl, hk30, rfl, F, hB, M, G, hP⟩ := hrel
    by_cases hlt : k < xs.length ∧ k < 30
    · obtain ⟨hlt, h30⟩ := hlt
      obtain ⟨ad, rfl, hcell⟩ := (hr.below hP.bel).at_ (k : Int) (by omega) (by omega)
      have hnum : (Int.toNat (k : Int)) = k := Int.toNat_natCast k
      rw [hnum] at hcell
      obtain ⟨hc0, hc5⟩ := mod5_rng (rd xs k)
      generalize hc : rd xs k % 5 = c at hc0 hc5
      have hwc : broadsidebook_Within.f (rd xs k) 0 4 = some c := hc ▸ within5 _
      have hcw : wf c := wf_small _ (by omega) (by omega)
      have hN1 : 2 * k ≤ 1048576 := by omega
      have hN4 : 4 * k ≤ 1048576 := by omega
      have hdr : ((rd xs k).tmod 3 = 2) ∨ ¬ ((rd xs k).tmod 3 = 2) := by omega
      rcases hdr with hdr | hdr
      · go_wp2_with (first | (go_at_call 12; (with_reducible refine (broadsidebook_Within.calls (rd xs k) 0 4 c _ hwc).mono ?_); rintro e w2 ⟨rfl, hd2⟩; have hb2 := hd2.below; have hB2 := hB.below hb2; have hP2 := hP.below hb2; have hcell2 := pw_cell_below hb2 hcell) | (go_at_call 15; (with_reducible refine (copy_calls hB2 hN1).mono ?_); rintro e w3 ⟨go, mo, rfl, hBo, hb3⟩; have hB3 := hB2.below hb3; have hP3 := hP2.step (Turn.of_below hb3); have hcell3 := pw_cell_below hb3 hcell2; have hBo3 := hBo.trim) | go_in)
        obtain ⟨mv, D, hm, hlk⟩ := hP3.look
        have hXM : ∀ q, M q → ¬ (F q ∨ w2.heap.size ≤ q ∧ q < w3.heap.size) := fun q hq hx => (hP3.XM q hx).1 hq
        have hS14 : ∀ W, Turn (fun q => F q ∨ w2.heap.size ≤ q ∧ q < w3.heap.size) w3 W → (Instr.lookup 43 (.map (some bm)) (.int .i64 c) false).run Try.prog W = .ok (mv c) W ∧ True := fun W hT => ⟨run_look (hm.turn hT hXM).map hcw (hm.at_ c hcw), trivial⟩
        refine start_ (n := 8) (S := fun w' => (Instr.lookup 43 (.map (some bm)) (.int .i64 c) false).run Try.prog w' = .ok (mv c) w' ∧ True) (ds := []) #[false, false, false, false, false, false, false, false] (by kernel_rfl) rfl rfl (hS14 _ (Turn.of_below (below_drew1 (Below.refl _ _)))) (fun hHeld => ?_)
        have hW0 : Below w3.heap.size w3 w3.drew := below_drew1 (Below.refl _ _)
        generalize w3.drew = W0 at hW0 hHeld ⊢
        refine pure_ (i := 0) (N := some 43) (v := ?_) (a' := ?_) #[true, false, false, false, false, false, false, false] rfl rfl (by kernel_rfl) (fun _ _ _ h => h) (Or.inl ⟨by rfl, ?_⟩) ?_ ?_
        rotate_left
        · intro w'
          go_simp
          with_reducible rfl
        rotate_left
        · simp only [Act.put, List.setIfInBounds_toArray, List.set_cons_zero, List.set_cons_succ, i64_w, i32_w]
          rfl
        refine pure_ (i := 1) (N := some 44) (v := ?_) (a' := ?_) #[true, true, false, false, false, false, false, false] rfl rfl (by kernel_rfl) (fun _ _ _ h => h) (Or.inl ⟨by rfl, ?_⟩) ?_ ?_
        rotate_left
        · intro w'
          go_simp
          with_reducible rfl
        rotate_left
        · simp only [Act.put, List.setIfInBounds_toArray, List.set_cons_zero, List.set_cons_succ, i64_w, i32_w]
          rfl
        refine pure_ (i := 3) (N := some 46) (v := ?_) (a' := ?_) #[true, true, false, true, false, false, false, false] rfl rfl (by kernel_rfl) (fun _ _ _ h => h) (Or.inl ⟨by rfl, ?_⟩) ?_ ?_
        rotate_left
        · intro w'
          go_simp
          with_reducible rfl
        rotate_left
        · simp only [Act.put, List.setIfInBounds_toArray, List.set_cons_zero, List.set_cons_succ, i64_w, i32_w]
          rfl
        refine pure_ (i := 4) (N := some 47) (v := ?_) (a' := ?_) #[true, true, false, true, true, false, false, false] rfl rfl (by kernel_rfl) (fun _ _ _ h => h) (Or.inl ⟨by rfl, ?_⟩) ?_ ?_
        rotate_left
        · intro w'
          go_simp
          with_reducible rfl
        rotate_left
        · simp only [Act.put, List.setIfInBounds_toArray, List.set_cons_zero, List.set_cons_succ, i64_w, i32_w]
          rfl
        refine take_ (i := 5) (N := some 48) (v := ?_) (a' := ?_) #[true, true, false, true, true, true, false, false] rfl rfl (by kernel_rfl) (fun _ _ _ h => h) (Or.inl ⟨by rfl, ?_⟩) hHeld ?_ ?_
        rotate_left
        · rintro w' ⟨s0, s1⟩
          go_simp
          with_reducible rfl
        rotate_left
        · simp only [Act.put, List.setIfInBounds_toArray, List.set_cons_zero, List.set_cons_succ, i64_w, i32_w]
          rfl
        refine one_ (i := 2) (N := some 45) #[true, true, true, true, true, true, false, false] rfl rfl (by kernel_rfl) (by decide) (fun K hK => ?_)
        refine goes_ Try.func10 (by kernel_rfl) rfl #[.pointer (some ⟨gb, 0, none⟩), .int .i64 c] (by rfl) rfl rfl (by (try simp only [List.map_toArray, List.map_cons, List.map_nil]); first | done | rfl) ?_
        refine (drain_calls (hB3.below hW0) c hcw hN1).mono ?_
        rintro e w11 ⟨v11, rfl, hr11, hB11, hT11⟩
        refine ⟨_, rfl, ?_⟩
        have hT3 : Turn (fun q => F q ∨ w2.heap.size ≤ q ∧ q < w3.heap.size) w3 w11 := (Turn.of_below hW0).trans hT11 (fun q hq => .inl (.inl hq))
        have hTF3 : Turn F w3 w11 := (Turn.of_below hW0).trans hT11 (fun q hq => .inl hq)
        have hP11 := hP3.step hT3
        have hm11 := hm.turn hT3 hXM
        refine hK.out _ _ (hS14 _ hT3) (fun hHeld => ?_)
        clear hK K
        refine norm_ (a' := ?_) ?_ ?_
        rotate_left
        · show Act.put _ (some 45) _ = _
          simp only [Act.put, List.setIfInBounds_toArray, List.set_cons_zero, List.set_cons_succ, i64_w, i32_w]
          rfl
        refine one_ (i := 6) (N := some 49) #[true, true, true, true, true, true, true, false] rfl rfl (by kernel_rfl) (by decide) (fun K hK => ?_)
        refine goes_ Try.func14 (by kernel_rfl) rfl #[v11, mv c] (by rfl) rfl rfl (by (try simp only [List.map_toArray, List.map_cons, List.map_nil]); first | done | rfl) ?_
        refine (gots_calls hr11 (hm11.row c) (at0 r) (hP11.readsM c) (fun d hd => Nat.le_trans (at0_le r d) (by omega)) (Nat.le_trans (hP3.lm c) hN4)).mono ?_
        rintro e w12 ⟨rfl, hb12⟩
        refine ⟨_, rfl, ?_⟩
        have hB12 := hB11.below hb12
        have hP12 := hP11.below hb12
        have hT12 := hT3.trans (S2 := fun _ => False) (Turn.of_below hb12) (fun q hq => hq.elim)
        have hm12 := hm.turn hT12 hXM
        refine hK.out _ _ (hS14 _ hT12) (fun hHeld => ?_)
        clear hK K
        refine norm_ (a' := ?_) ?_ ?_
        rotate_left
        · show Act.put _ (some 49) _ = _
          simp only [Act.put, List.setIfInBounds_toArray, List.set_cons_zero, List.set_cons_succ, i64_w, i32_w]
          rfl
        refine pure_ (i := 7) (N := some 50) (v := ?_) (a' := ?_) #[true, true, true, true, true, true, true, true] rfl rfl (by kernel_rfl) (fun _ _ _ h => h) (Or.inl ⟨by rfl, ?_⟩) ?_ ?_
        rotate_left
        · intro w'
          go_simp
          with_reducible rfl
        rotate_left
        · simp only [Act.put, List.setIfInBounds_toArray, List.set_cons_zero, List.set_cons_succ, i64_w, i32_w]
          rfl
        refine done_ (by kernel_rfl) ?_
        obtain ⟨w13, hrun13, hmap13, hturn13⟩ := hm12.map.store keyed3 Try.underlying43 (by simp only [maxLen]; omega) (key3 c hcw) (val := nilS) (d := .held nilS) (ps := []) rfl
        obtain ⟨hP13, hT13⟩ := hP12.set c ⟨hc0, hc5⟩ hm12 (Below.refl _ _) (Row.nil _ _) (fun q hq => by cases hq) hmap13 hturn13 (fun d hd => by simp at hd) (Nat.zero_le _)
        have hB13 := hB12.turn hT13 (fun q hq e => (hP12.XM q (.inl (.inl hq))).1 (e ▸ hm.Mb))
        have hFo : ∀ q, F q → q < w2.heap.size := fun q hq => hP2.lt q (.inr (.inr hq))
        have hbm2 : bm < w2.heap.size := by obtain ⟨_, _, h⟩ := hP2.mb; exact hP2.lt bm (.inl h.Mb)
        have hBo13 := ((hBo3.turn hTF3 (fun q hq hF => by have := hFo q hF; omega)).below hb12).turn hT13 (fun q hq e => by omega)
        have hPT := (hP13.grow (show 4 * k + 1 ≤ 4 * (k + 1) by omega)).mono (X' := fun q => F q ∨ w2.heap.size ≤ q ∧ q < w3.heap.size) (fun q hq => .inl hq)
        have hBT := hB13.grow (show 2 * k ≤ 2 * (k + 1) by omega)
        have hsz13 : w3.heap.size ≤ w13.heap.size := Nat.le_trans hT3.size (Nat.le_trans hb12.size hT13.size)
        have hUT := hP13.row
        clear hB hB2 hB3 hP hP2 hP3 hP11 hP12 hP13 hm hm11 hm12 hlk hS14 hHeld hW0 hT3 hTF3 hT11 hT12 hB11 hB12 hb12 hXM hBo3 hr11 hmap13 hB13 hturn13 hT13 hBo hUT
        have hdj : ∀ q, F q → ¬ (w2.heap.size ≤ q ∧ q < w3.heap.size) := fun q h1 h2 => by have := hFo q h1; omega
        have hlF : ∀ q, F q → q < w13.heap.size := fun q hq => hPT.lt q (.inr (.inr (.inl hq)))
        have hw3T : w3.heap.size ≤ w13.heap.size := by omega
        have hNT : 2 * (k + 1) ≤ 1048576 := by omega
        have hNT4 : 4 * (k + 1) ≤ 1048576 := by omega
        go_wp2_with (first | (go_at_call 8; refine (put_calls (ds := [⟨c, 0, 0, none, 0, 0⟩]) (hBo13.below (below_alloc (Below.refl _ _) _)) (row_lit w13 0 (Nat.zero_le _) [⟨c, 0, 0, none, 0, 0⟩] (by simp)) (fun q hq hF => by cases hq; have hF2 : w13.heap.size < w3.heap.size := hF.2; omega) (fun d hd => by simp only [List.mem_singleton] at hd; subst hd; exact hcw) (by simp; omega)).mono ?_; rintro e w14 ⟨rfl, hBo14, hT14⟩; have hP14 := (hPT.below (below_alloc (Below.refl _ _) _)).step (hT14.mono (fun q hq => .inr hq)); have hB14 := (hBT.below (below_alloc (Below.refl _ _) _)).turn hT14 hdj; have hBo14t := hBo14.trim) | (go_at_call 10; (with_reducible refine (drain_calls hBo14t c hcw (by simp; omega)).mono ?_); rintro e w15 ⟨v15, rfl, hr15, hBo15, hT15⟩; have hP15 := hP14.step (hT15.mono (fun q hq => hq.1.elim (fun h => .inl (.inr h)) (fun h => .inr ⟨h, hq.2⟩))); have hB15 := hB14.turn hT15 (fun q h1 h2 => h2.1.elim (hdj q h1) (fun h => by have := hlF q h1; simp at h; omega))) | go_in)
        have hPS := hP15.mono (X' := F) (fun q hq => .inl (.inl (.inl hq)))
        clear hPT hBT hBo13 hBo14 hT14 hP14 hB14 hBo14t hr15 hBo15 hT15 hP15 hlF
        go_loopw [109] (fun v w16 => ∃ j : Nat, j ≤ 5 ∧ v = .int .i64 j ∧ Below w15.heap.size w15 w16) (fun v _ => 5 - (intOf v).toNat)
        case atStart => exact ⟨0, Nat.zero_le _, rfl, Below.refl _ _⟩
        case round =>
          obtain ⟨j, hj5, rfl, hbj⟩ := hrel
          have hPr := hPS.below hbj
          have hBr := hB15.below hbj
          have hnj : (Int.toNat (j : Int)) = j := Int.toNat_natCast j
          by_cases hjl : j < 5
          · have hjw : wf (j : Int) := wf_small _ (by omega) (by omega)
            obtain ⟨mv, D, hm, hlk⟩ := hPr.look
            have hS28 : ∀ W, Below wr.heap.size wr W → (Instr.lookup 43 (.map (some bm)) (.int .i64 j) false).run Try.prog W = .ok (mv j) W ∧ True := fun W hT => by
              have h := hm.turn (Turn.of_below (S := fun _ => False) hT) (fun _ _ h => h)
              exact ⟨run_look h.map hjw (h.at_ j hjw), trivial⟩
            go_wp2
            refine start_ (n := 8) (S := fun w' => (Instr.lookup 43 (.map (some bm)) (.int .i64 j) false).run Try.prog w' = .ok (mv j) w' ∧ True) (ds := []) #[false, false, false, false, false, false, false, false] (by kernel_rfl) rfl rfl (hS28 _ (below_drew1 (Below.refl _ _))) (fun hHeld => ?_)
            have hW0 : Below wr.heap.size wr wr.drew := below_drew1 (Below.refl _ _)
            generalize wr.drew = W0 at hW0 hHeld ⊢
            refine pure_ (i := 0) (N := some 112) (v := ?_) (a' := ?_) #[true, false, false, false, false, false, false, false] rfl rfl (by kernel_rfl) (fun _ _ _ h => h) (Or.inl ⟨by rfl, ?_⟩) ?_ ?_
            rotate_left
            · intro w'
              go_simp
              with_reducible rfl
            rotate_left
            · simp only [Act.put, List.setIfInBounds_toArray, List.set_cons_zero, List.set_cons_succ, i64_w, i32_w]
              rfl
            refine pure_ (i := 1) (N := some 113) (v := ?_) (a' := ?_) #[true, true, false, false, false, false, false, false] rfl rfl (by kernel_rfl) (fun _ _ _ h => h) (Or.inl ⟨by rfl, ?_⟩) ?_ ?_
            rotate_left
            · intro w'
              go_simp
              with_reducible rfl
            rotate_left
            · simp only [Act.put, List.setIfInBounds_toArray, List.set_cons_zero, List.set_cons_succ, i64_w, i32_w]
              rfl
            refine pure_ (i := 3) (N := some 115) (v := ?_) (a' := ?_) #[true, true, false, true, false, false, false, false] rfl rfl (by kernel_rfl) (fun _ _ _ h => h) (Or.inl ⟨by rfl, ?_⟩) ?_ ?_
            rotate_left
            · intro w'
              go_simp
              with_reducible rfl
            rotate_left
            · simp only [Act.put, List.setIfInBounds_toArray, List.set_cons_zero, List.set_cons_succ, i64_w, i32_w]
              rfl
            refine pure_ (i := 4) (N := some 116) (v := ?_) (a' := ?_) #[true, true, false, true, true, false, false, false] rfl rfl (by kernel_rfl) (fun _ _ _ h => h) (Or.inl ⟨by rfl, ?_⟩) ?_ ?_
            rotate_left
            · intro w'
              go_simp
              with_reducible rfl
            rotate_left
            · simp only [Act.put, List.setIfInBounds_toArray, List.set_cons_zero, List.set_cons_succ, i64_w, i32_w]
              rfl
            refine take_ (i := 5) (N := some 117) (v := ?_) (a' := ?_) #[true, true, false, true, true, true, false, false] rfl rfl (by kernel_rfl) (fun _ _ _ h => h) (Or.inl ⟨by rfl, ?_⟩) hHeld ?_ ?_
            rotate_left
            · rintro w' ⟨s0, s1⟩
              go_simp
              with_reducible rfl
            rotate_left
            · simp only [Act.put, List.setIfInBounds_toArray, List.set_cons_zero, List.set_cons_succ, i64_w, i32_w]
              rfl
            refine one_ (i := 2) (N := some 114) #[true, true, true, true, true, true, false, false] rfl rfl (by kernel_rfl) (by decide) (fun K hK => ?_)
            refine goes_ Try.func9 (by kernel_rfl) rfl #[.pointer (some ⟨gb, 0, none⟩), .int .i64 j] (by rfl) rfl rfl (by (try simp only [List.map_toArray, List.map_cons, List.map_nil]); first | done | rfl) ?_
            refine (look_calls (hBr.below hW0) j hjw hNT).mono ?_
            rintro e w16 ⟨v16, rfl, hr16, hb16⟩
            refine ⟨_, rfl, ?_⟩
            have hW1 := below_step hW0 hb16
            have hP16 := hPr.below hW1
            have hm16 := hm.turn (Turn.of_below (S := fun _ => False) hW1) (fun _ _ h => h)
            refine hK.out _ _ (hS28 _ hW1) (fun hHeld => ?_)
            clear hK K
            refine norm_ (a' := ?_) ?_ ?_
            rotate_left
            · show Act.put _ (some 114) _ = _
              simp only [Act.put, List.setIfInBounds_toArray, List.set_cons_zero, List.set_cons_succ, i64_w, i32_w]
              rfl
            refine one_ (i := 6) (N := some 118) #[true, true, true, true, true, true, true, false] rfl rfl (by kernel_rfl) (by decide) (fun K hK => ?_)
            refine goes_ Try.func14 (by kernel_rfl) rfl #[v16, mv j] (by rfl) rfl rfl (by (try simp only [List.map_toArray, List.map_cons, List.map_nil]); first | done | rfl) ?_
            refine (gots_calls hr16 (hm16.row j) (at0 r) (hP16.readsM j) (fun d hd => Nat.le_trans (at0_le r d) (by omega)) (Nat.le_trans (hPr.lm j) hNT4)).mono ?_
            rintro e w17 ⟨rfl, hb17⟩
            refine ⟨_, rfl, ?_⟩
            have hW2 := below_step hW1 hb17
            refine hK.out _ _ (hS28 _ hW2) (fun hHeld => ?_)
            clear hK K
            refine norm_ (a' := ?_) ?_ ?_
            rotate_left
            · show Act.put _ (some 118) _ = _
              simp only [Act.put, List.setIfInBounds_toArray, List.set_cons_zero, List.set_cons_succ, i64_w, i32_w]
              rfl
            refine pure_ (i := 7) (N := some 119) (v := ?_) (a' := ?_) #[true, true, true, true, true, true, true, true] rfl rfl (by kernel_rfl) (fun _ _ _ h => h) (Or.inl ⟨by rfl, ?_⟩) ?_ ?_
            rotate_left
            · intro w'
              go_simp
              with_reducible rfl
            rotate_left
            · simp only [Act.put, List.setIfInBounds_toArray, List.set_cons_zero, List.set_cons_succ, i64_w, i32_w]
              rfl
            refine done_ (by kernel_rfl) ?_
            have hbj2 := below_step hbj hW2
            clear hPr hBr hm hlk hS28 hHeld hW0 hr16 hb16 hW1 hP16 hm16 hb17 hW2 hbj
            go_wp2
            go_roundw
            case rel => exact ⟨j + 1, by omega, by go_num, hbj2⟩
            case measure => simp [intOf]; omega
          · have hje : j = 5 := by omega
            subst hje
            go_wp2_with (first | (go_at_call 11; (with_reducible refine (all_calls hBr hNT).mono ?_); rintro e w17 ⟨v17, rfl, hr17, hb17⟩; have hP17 := hPr.below hb17; have hB17 := hBr.below hb17) | (go_at_call 14; (with_reducible refine (gots_calls hr17 hP17.row (at0 r) hP17.readsAll (fun d hd => Nat.le_trans (at0_le r d) (by omega)) (Nat.le_trans hP17.la hNT4)).mono ?_); rintro e w18 ⟨rfl, hb18⟩; have hP18 := hP17.below hb18; have hB18 := hB17.below hb18) | go_in)
            go_roundw
            case rel => exact ⟨k + 1, _, _, by omega, by omega, by go_num, _, hB18, _, _, hP18⟩
            case measure => simp [intOf]; omega
      · obtain ⟨he0, he5⟩ := mod5_rng (wrap64 ((rd xs k).tdiv 8))
        generalize hcd : wrap64 ((rd xs k).tdiv 8) % 5 = c2 at he0 he5
        have hwc2 : broadsidebook_Within.f (wrap64 ((rd xs k).tdiv 8)) 0 4 = some c2 := hcd ▸ within5 _
        have hcw2 : wf c2 := wf_small _ (by omega) (by omega)
        have hNg : 4 * k ≤ 4 * k + 2 := by omega
        go_wp2_with (first | (go_at_call 12; (with_reducible refine (broadsidebook_Within.calls (rd xs k) 0 4 c _ hwc).mono ?_); rintro e w2 ⟨rfl, hd2⟩; have hb2 := hd2.below; have hB2 := hB.below hb2; have hP2 := hP.below hb2; have hcell2 := pw_cell_below hb2 hcell) | (go_at_call 15; (with_reducible refine (copy_calls hB2 hN1).mono ?_); rintro e w3 ⟨go, mo, rfl, hBo, hb3⟩; have hB3 := hB2.below hb3; have hP3 := hP2.step (Turn.of_below hb3); have hcell3 := pw_cell_below hb3 hcell2; have hBo3 := hBo.trim; have z0 := (blk_cell hP3.kb 0).trans rfl; have z1 := (blk_cell hP3.kb 1).trans rfl) | (go_at_call 13; (with_reducible refine (broadsidekeep_Tuple_Tuple.calls kt A1 n1 l1 A2 n2 l2 r _ (Kd.C_below hr1 hP3.bel) hc1 (Kd.C_below hr2 hP3.bel) hc2 ht).mono ?_); rintro e w4 ⟨vt, rfl, hvt, hb4⟩; obtain ⟨At, nt, rfl, hlt_⟩ := R_form54 hvt; have hwfs : ∀ d ∈ ([⟨c, 0, k, At, r.length, nt⟩, ⟨c2, 0, 100 + k, none, 0, 0⟩] : List Dv), wf d.c := (fun d hd => by simp only [List.mem_cons, List.not_mem_nil, or_false] at hd; rcases hd with rfl | rfl; exact hcw; exact hcw2); have hs34 := hb4.size; have hNp : 2 * k + [(⟨c, 0, k, At, r.length, nt⟩ : Dv), ⟨c2, 0, 100 + k, none, 0, 0⟩].length ≤ 1048576 := (by simp; omega); have hs23 := hb3.size; have hFo : ∀ q, F q → q < w2.heap.size := (fun q hq => hP2.lt q (.inr (.inr hq))); have hP4 := hP3.claim hb4; have hA4 : AttN (fun q => (G q ∨ w3.heap.size ≤ q ∧ q < w4.heap.size)) w4 w.heap.size r ⟨c, 0, k, At, r.length, nt⟩ := .inl ⟨rfl, hlt_, Kd.R_mono (Kd.R_lower (att_of hvt) hP3.bel.size) (fun q hq => .inr hq)⟩; have hB4 := hB3.below hb4; have hBo4 := hBo3.below hb4; have hcell5 := pw_cell_below (below_alloc (Below.refl _ _) (.cells #[.int .i64 c, .int .i64 0, .int .i64 k, .slice At r.length nt] 29)) (pw_cell_below hb4 hcell3)) | (go_at_call 12; (with_reducible refine (broadsidebook_Within.calls (wrap64 ((rd xs k).tdiv 8)) 0 4 c2 _ hwc2).mono ?_); rintro e w6 ⟨rfl, hd6⟩; have hb6 : Below w4.heap.size w4 w6 := below_step (below_alloc (Below.refl _ _) _) hd6.below; have hdd6 : w6.heap[w4.heap.size]? = some (.cells #[.int .i64 c, .int .i64 0, .int .i64 k, .slice At r.length nt] 29 (0, 0)) := (hd6.below.block w4.heap.size (by simp)).trans (heap_alloc_new w4 _); have hb7 : Below w4.heap.size w4 (w6.alloc (.cells #[.int .i64 c2, .int .i64 0, .int .i64 (100 + k), .slice none 0 0] 29)) := below_alloc hb6 _; have hdd7 := ((below_alloc (Below.refl w6.heap.size w6) (.cells #[.int .i64 c2, .int .i64 0, .int .i64 (100 + k), .slice none 0 0] 29)).block w4.heap.size (blk_lt hdd6)).trans hdd6; have q0 := (blk_cell hdd7 0).trans rfl; have q1 := (blk_cell hdd7 1).trans rfl; have q2 := (blk_cell hdd7 2).trans rfl; have q3 := (blk_cell hdd7 3).trans rfl; have hb8 : Below w4.heap.size w4 ((w6.alloc (.cells #[.int .i64 c2, .int .i64 0, .int .i64 (100 + k), .slice none 0 0] 29)).alloc (.cells #[.int .i64 c, .int .i64 0, .int .i64 k, .slice At r.length nt, .int .i64 c2, .int .i64 0, .int .i64 (100 + k), .slice none 0 0] 29)) := below_alloc hb7 _; have hP8 := hP4.below hb8; have hs64 := hb6.size; have hrow8 : Row ((w6.alloc (.cells #[.int .i64 c2, .int .i64 0, .int .i64 (100 + k), .slice none 0 0] 29)).alloc (.cells #[.int .i64 c, .int .i64 0, .int .i64 k, .slice At r.length nt, .int .i64 c2, .int .i64 0, .int .i64 (100 + k), .slice none 0 0] 29)) 0 (.slice (some ⟨w6.heap.size + 1, 0, none⟩) 2 2) [⟨c, 0, k, At, r.length, nt⟩, ⟨c2, 0, 100 + k, none, 0, 0⟩] := (by have h := row_lit (w6.alloc (.cells #[.int .i64 c2, .int .i64 0, .int .i64 (100 + k), .slice none 0 0] 29)) 0 (Nat.zero_le _) [⟨c, 0, k, At, r.length, nt⟩, ⟨c2, 0, 100 + k, none, 0, 0⟩] (by simp); simpa [flat, Dv.cells] using h)) | (go_at_call 8; (with_reducible refine (put_calls (hB4.below hb8) hrow8 (fun q hq hF => by simp only [Value.ownBlock, Option.some.injEq] at hq; have h1 := hFo _ hF; omega) hwfs hNp).mono ?_); rintro e w9 ⟨rfl, hB9, hT9⟩; have hs89 := hT9.size; have hdd9 : w9.heap[w4.heap.size]? = some (.cells #[.int .i64 c, .int .i64 0, .int .i64 k, .slice At r.length nt] 29 (0, 0)) := (hT9.block _ (by simp; omega) (fun hF => by have := hFo _ hF; omega)).trans (((below_alloc (Below.refl (w6.alloc (.cells #[.int .i64 c2, .int .i64 0, .int .i64 (100 + k), .slice none 0 0] 29)).heap.size _) (.cells #[.int .i64 c, .int .i64 0, .int .i64 k, .slice At r.length nt, .int .i64 c2, .int .i64 0, .int .i64 (100 + k), .slice none 0 0] 29)).block _ (blk_lt hdd7)).trans hdd7); have hee9 : w9.heap[w6.heap.size]? = some (.cells #[.int .i64 c2, .int .i64 0, .int .i64 (100 + k), .slice none 0 0] 29 (0, 0)) := (hT9.block _ (by simp; omega) (fun hF => by have := hFo _ hF; omega)).trans (((below_alloc (Below.refl (w6.alloc (.cells #[.int .i64 c2, .int .i64 0, .int .i64 (100 + k), .slice none 0 0] 29)).heap.size _) (.cells #[.int .i64 c, .int .i64 0, .int .i64 k, .slice At r.length nt, .int .i64 c2, .int .i64 0, .int .i64 (100 + k), .slice none 0 0] 29)).block _ (by simp)).trans (heap_alloc_new w6 _)); have q0 := (blk_cell hdd9 0).trans rfl; have q1 := (blk_cell hdd9 1).trans rfl; have q2 := (blk_cell hdd9 2).trans rfl; have q3 := (blk_cell hdd9 3).trans rfl; have p0 := (blk_cell hee9 0).trans rfl; have p1 := (blk_cell hee9 1).trans rfl; have p2 := (blk_cell hee9 2).trans rfl; have p3 := (blk_cell hee9 3).trans rfl; have hP9 := (hP8.step (hT9.mono (fun q hq => .inl hq))).grow hNg; have hA9 := ((hA4.turn (S := fun _ => False) (Turn.of_below hb8) (fun _ _ h => h)).turn hT9 (fun q hq hF => (hP8.XM q (.inl hF)).2.1 hq)); have hBo9 := (hBo4.below hb8).turn hT9 (fun q hq hF => by have := hFo q hF; omega); have hP10 := hP9.below (below_alloc (Below.refl w9.heap.size w9) (.cells #[.int .i64 c, .int .i64 0, .int .i64 k, .slice At r.length nt, .int .i64 c2, .int .i64 0, .int .i64 (100 + k), .slice none 0 0] 29)); have hA10 := hA9.turn (S := fun _ => False) (Turn.of_below (below_alloc (Below.refl w9.heap.size w9) (.cells #[.int .i64 c, .int .i64 0, .int .i64 k, .slice At r.length nt, .int .i64 c2, .int .i64 0, .int .i64 (100 + k), .slice none 0 0] 29))) (fun _ _ h => h); have hrow10 : Row (w9.alloc (.cells #[.int .i64 c, .int .i64 0, .int .i64 k, .slice At r.length nt, .int .i64 c2, .int .i64 0, .int .i64 (100 + k), .slice none 0 0] 29)) 0 (.slice (some ⟨w9.heap.size, 0, none⟩) 2 2) [⟨c, 0, k, At, r.length, nt⟩, ⟨c2, 0, 100 + k, none, 0, 0⟩] := (by have h := row_lit w9 0 (Nat.zero_le _) [⟨c, 0, k, At, r.length, nt⟩, ⟨c2, 0, 100 + k, none, 0, 0⟩] (by simp); simpa [flat, Dv.cells] using h)) | (at_builtin; refine wpList_append_row rfl (.tmp 74) (.tmp 77) rfl rfl rfl hP10.row hrow10 hP10.bel.size (by have := hP.la; simp; omega) ?_; intro v11 w11 hr11 hg11 hat11) | go_in)
        have hg11' : (w9.alloc (.cells #[.int .i64 c, .int .i64 0, .int .i64 k, .slice At r.length nt, .int .i64 c2, .int .i64 0, .int .i64 (100 + k), .slice none 0 0] 29)).grownBy w11 u7.ownBlock := hg11
        have hat11' : v11.ownBlock = u7.ownBlock ∨ ∃ q, v11.ownBlock = some q ∧ (w9.alloc (.cells #[.int .i64 c, .int .i64 0, .int .i64 k, .slice At r.length nt, .int .i64 c2, .int .i64 0, .int .i64 (100 + k), .slice none 0 0] 29)).heap.size ≤ q := hat11
        obtain ⟨hP11, hT11⟩ := hP10.append hg11' hr11 hat11' (fun d hd => by simp only [List.mem_cons, List.not_mem_nil, or_false] at hd; rcases hd with rfl | rfl; exact hA10; exact .inr ⟨rfl, rfl, rfl⟩) (by have := hP.la; simp; omega)
        have hF9 : ∀ q, ((F q ∨ ((w6.alloc (.cells #[.int .i64 c2, .int .i64 0, .int .i64 (100 + k), .slice none 0 0] 29)).alloc (.cells #[.int .i64 c, .int .i64 0, .int .i64 k, .slice At r.length nt, .int .i64 c2, .int .i64 0, .int .i64 (100 + k), .slice none 0 0] 29)).heap.size ≤ q) ∧ q < w9.heap.size) → ((F q ∨ w2.heap.size ≤ q ∧ q < w3.heap.size) ∨ ((w6.alloc (.cells #[.int .i64 c2, .int .i64 0, .int .i64 (100 + k), .slice none 0 0] 29)).alloc (.cells #[.int .i64 c, .int .i64 0, .int .i64 k, .slice At r.length nt, .int .i64 c2, .int .i64 0, .int .i64 (100 + k), .slice none 0 0] 29)).heap.size ≤ q ∧ q < w9.heap.size) := fun q hq => hq.1.elim (fun h => .inl (.inl h)) (fun h => .inr ⟨h, hq.2⟩)
        have hB11 := (hB9.trim.below (below_alloc (Below.refl w9.heap.size w9) (.cells #[.int .i64 c, .int .i64 0, .int .i64 k, .slice At r.length nt, .int .i64 c2, .int .i64 0, .int .i64 (100 + k), .slice none 0 0] 29))).turn hT11 (fun q hq e => (hP10.XM q (hF9 q hq)).2.2.2 e)
        have hBo11 := (hBo9.below (below_alloc (Below.refl w9.heap.size w9) (.cells #[.int .i64 c, .int .i64 0, .int .i64 k, .slice At r.length nt, .int .i64 c2, .int .i64 0, .int .i64 (100 + k), .slice none 0 0] 29))).turn hT11 (fun q hq e => (hP10.XM q (.inl (.inr hq))).2.2.2 e)
        have hbmG : bm < w2.heap.size := by obtain ⟨_, _, h⟩ := hP2.mb; exact hP2.lt bm (.inl h.Mb)
        have hul : ∀ q, u7.ownBlock = some q → q < w2.heap.size := fun q hq => (hP2.row.lt q hq).2
        have hdd11 := (hT11.block w4.heap.size (by have := blk_lt hdd9; simp; omega) (fun e => by have := hul _ e; omega)).trans (((below_alloc (Below.refl w9.heap.size w9) (.cells #[.int .i64 c, .int .i64 0, .int .i64 k, .slice At r.length nt, .int .i64 c2, .int .i64 0, .int .i64 (100 + k), .slice none 0 0] 29)).block _ (blk_lt hdd9)).trans hdd9)
        have hee11 := (hT11.block w6.heap.size (by have := blk_lt hee9; simp; omega) (fun e => by have := hul _ e; omega)).trans (((below_alloc (Below.refl w9.heap.size w9) (.cells #[.int .i64 c, .int .i64 0, .int .i64 k, .slice At r.length nt, .int .i64 c2, .int .i64 0, .int .i64 (100 + k), .slice none 0 0] 29)).block _ (blk_lt hee9)).trans hee9)
        have hs11 := hT11.size
        have hs8 : w3.heap.size ≤ ((w6.alloc (.cells #[.int .i64 c2, .int .i64 0, .int .i64 (100 + k), .slice none 0 0] 29)).alloc (.cells #[.int .i64 c, .int .i64 0, .int .i64 k, .slice At r.length nt, .int .i64 c2, .int .i64 0, .int .i64 (100 + k), .slice none 0 0] 29)).heap.size := by simp; omega
        have hs911 : w9.heap.size ≤ w11.heap.size := by simp at hs11; omega
        generalize ((w6.alloc (.cells #[.int .i64 c2, .int .i64 0, .int .i64 (100 + k), .slice none 0 0] 29)).alloc (.cells #[.int .i64 c, .int .i64 0, .int .i64 k, .slice At r.length nt, .int .i64 c2, .int .i64 0, .int .i64 (100 + k), .slice none 0 0] 29)).heap.size = N8 at hP11 hF9 hB11 hs8 hs89
        have hs69 : w6.heap.size < w9.heap.size := blk_lt hee9
        clear hP hP2 hP3 hP4 hP8 hP9 hP10 hB hB2 hB3 hB4 hB9 hBo hBo3 hBo4 hBo9 hA4 hA9 hA10 hr11 hg11 hg11' hat11 hat11' hT11 hT9 hrow8 hrow10 q0 q1 q2 q3 p0 p1 p2 p3 hdd6 hdd7 hdd9 hee9 hb7 hb8 hcell hcell2 hcell3 hcell5 z0 z1 hs11 hd2 hd6 hwfs hvt
        obtain ⟨mv, D, hm, hlk⟩ := hP11.look
        have hS21 : ∀ w', Below w11.heap.size w11 w' → (Instr.lookup 43 (.map (some bm)) (.int .i64 c) false).run Try.prog w' = .ok (mv c) w' ∧ w'.cell? ⟨w4.heap.size, 0, none⟩ = some (.int .i64 c) ∧ w'.cell? ⟨w4.heap.size, 1, none⟩ = some (.int .i64 0) ∧ w'.cell? ⟨w4.heap.size, 2, none⟩ = some (.int .i64 k) ∧ w'.cell? ⟨w4.heap.size, 3, none⟩ = some (.slice At r.length nt) := fun w' hW => by
          have h := hm.turn (Turn.of_below (S := fun _ => False) hW) (fun _ _ h => h)
          have hd := (hW.block w4.heap.size (blk_lt hdd11)).trans hdd11
          exact ⟨run_look h.map hcw (h.at_ c hcw), (blk_cell hd 0).trans rfl, (blk_cell hd 1).trans rfl, (blk_cell hd 2).trans rfl, (blk_cell hd 3).trans rfl⟩
        have hsub21 : ∀ d ∈ m c ++ [⟨c, 0, k, At, r.length, nt⟩], d ∈ all ++ [⟨c, 0, k, At, r.length, nt⟩, ⟨c2, 0, 100 + k, none, 0, 0⟩] := fun d hd => by
          rcases List.mem_append.1 hd with h | h
          · exact hP11.sub c d h
          · exact List.mem_append.2 (.inr (by simp at h; simp [h]))
        refine start_ (n := 11) (S := fun w' => (Instr.lookup 43 (.map (some bm)) (.int .i64 c) false).run Try.prog w' = .ok (mv c) w' ∧ w'.cell? ⟨w4.heap.size, 0, none⟩ = some (.int .i64 c) ∧ w'.cell? ⟨w4.heap.size, 1, none⟩ = some (.int .i64 0) ∧ w'.cell? ⟨w4.heap.size, 2, none⟩ = some (.int .i64 k) ∧ w'.cell? ⟨w4.heap.size, 3, none⟩ = some (.slice At r.length nt)) (ds := [10]) #[false, false, false, false, false, false, false, false, false, false, false] (by kernel_rfl) rfl rfl (hS21 _ (below_drew1 (Below.refl _ _))) (fun hHeld => ?_)
        have hW0 : Below w11.heap.size w11 w11.drew := below_drew1 (Below.refl _ _)
        have hSz := fun (W : World) (hW : Below w11.drew.heap.size w11.drew W) => hS21 W (below_step hW0 hW)
        generalize w11.drew = W0 at hW0 hHeld hSz ⊢
        have hPz := hP11.below hW0
        have hmz := hm.turn (S := fun _ => False) (Turn.of_below hW0) (fun _ _ h => h)
        have hrow0 := hmz.row c
        have hbase := hPz.bel.size
        have hl0 : (m c).length ≤ 1048575 := by have := hPz.lm c; omega
        refine pure_ (i := 0) (N := some 79) (v := ?_) (a' := ?_) #[true, false, false, false, false, false, false, false, false, false, false] rfl rfl (by kernel_rfl) (fun _ _ _ h => h) (Or.inl ⟨by rfl, ?_⟩) ?_ ?_
        rotate_left
        · intro w'
          go_simp
          with_reducible rfl
        rotate_left
        · simp only [Act.put, List.setIfInBounds_toArray, List.set_cons_zero, List.set_cons_succ, i64_w, i32_w]
          rfl
        refine pure_ (i := 1) (N := some 80) (v := ?_) (a' := ?_) #[true, true, false, false, false, false, false, false, false, false, false] rfl rfl (by kernel_rfl) (fun _ _ _ h => h) (Or.inl ⟨by rfl, ?_⟩) ?_ ?_
        rotate_left
        · intro w'
          go_simp
          with_reducible rfl
        rotate_left
        · simp only [Act.put, List.setIfInBounds_toArray, List.set_cons_zero, List.set_cons_succ, i64_w, i32_w]
          rfl
        refine pure_ (i := 3) (N := some 82) (v := ?_) (a' := ?_) #[true, true, false, true, false, false, false, false, false, false, false] rfl rfl (by kernel_rfl) (fun _ _ _ h => h) (Or.inl ⟨by rfl, ?_⟩) ?_ ?_
        rotate_left
        · intro w'
          go_simp
          with_reducible rfl
        rotate_left
        · simp only [Act.put, List.setIfInBounds_toArray, List.set_cons_zero, List.set_cons_succ, i64_w, i32_w]
          rfl
        refine pure_ (i := 4) (N := some 83) (v := ?_) (a' := ?_) #[true, true, false, true, true, false, false, false, false, false, false] rfl rfl (by kernel_rfl) (fun _ _ _ h => h) (Or.inl ⟨by rfl, ?_⟩) ?_ ?_
        rotate_left
        · intro w'
          go_simp
          with_reducible rfl
        rotate_left
        · simp only [Act.put, List.setIfInBounds_toArray, List.set_cons_zero, List.set_cons_succ, i64_w, i32_w]
          rfl
        refine take_ (i := 5) (N := some 84) (v := ?_) (a' := ?_) #[true, true, false, true, true, true, false, false, false, false, false] rfl rfl (by kernel_rfl) (fun _ _ _ h => h) (Or.inl ⟨by rfl, ?_⟩) hHeld ?_ ?_
        rotate_left
        · rintro w' ⟨s0, s1, s2, s3, s4⟩
          go_simp
          with_reducible rfl
        rotate_left
        · simp only [Act.put, List.setIfInBounds_toArray, List.set_cons_zero, List.set_cons_succ, i64_w, i32_w]
          rfl
        refine take_ (i := 7) (N := some 86) (v := ?_) (a' := ?_) #[true, true, false, true, true, true, false, true, false, false, false] rfl rfl (by kernel_rfl) (fun _ _ _ h => h) (Or.inl ⟨by rfl, ?_⟩) hHeld ?_ ?_
        rotate_left
        · rintro w' ⟨s0, s1, s2, s3, s4⟩
          go_simp
          with_reducible rfl
        rotate_left
        · simp only [Act.put, List.setIfInBounds_toArray, List.set_cons_zero, List.set_cons_succ, i64_w, i32_w]
          rfl
        refine join_ (σ := Value × Value × Value) 2 #[true, true, true, true, true, true, true, true, true, false, false] (fun s => [(81, s.1), (85, s.2.1), (87, s.2.2)]) (fun s W => JF W0 w.heap.size (m c) (⟨c, 0, k, At, r.length, nt⟩ : Dv) s.2.1 s.2.2 W) ?_ ?_
        rotate_left
        · intro hJ
          refine two_ (i := 2) (j := 8) (Ni := some 81) (Nj := some 87) #[true, true, true, true, true, true, false, true, false, false, false] #[true, true, false, true, true, true, false, true, true, false, false] rfl rfl rfl rfl (by kernel_rfl) (by decide) (by decide) (fun K hK => ?_) (fun K hK => ?_)
          · skip
            refine value_ (w1 := W0.alloc (.cells #[] 29)) (v := .slice (some ⟨W0.heap.size, 0, none⟩) 0 0) (by rfl) rfl (by go_simp) ?_
            refine hK.out _ _ (hSz _ (below_alloc (Below.refl W0.heap.size W0) (.cells #[] 29))) (fun hHeld => ?_)
            clear hK K
            refine norm_ (a' := ?_) ?_ ?_
            rotate_left
            · show Act.put _ (some 81) _ = _
              simp only [Act.put, List.setIfInBounds_toArray, List.set_cons_zero, List.set_cons_succ, i64_w, i32_w]
              rfl
            obtain ⟨v85, w1, hrun1, hrow1, hbel1, hfr1, hkeep1, hsz1⟩ := jf_one (below_alloc (Below.refl W0.heap.size W0) (.cells #[] 29)) hbase (heap_alloc_new W0 _) (Nat.le_refl _) (hrow0.below (below_alloc (Below.refl W0.heap.size W0) (.cells #[] 29))) hl0
            refine two_ (i := 6) (j := 8) (Ni := some 85) (Nj := some 87) #[true, true, true, true, true, true, true, true, false, false, false] #[true, true, true, true, true, true, false, true, true, false, false] rfl rfl rfl rfl (by kernel_rfl) (by decide) (by decide) (fun K hK => ?_) (fun K hK => ?_)
            · skip
              refine step_append_row (by rfl) rfl (.tmp 81) (.tmp 84) rfl rfl rfl hrun1 ?_
              refine hK.out _ _ (hSz _ hbel1) (fun hHeld => ?_)
              clear hK K
              refine norm_ (a' := ?_) ?_ ?_
              rotate_left
              · show Act.put _ (some 85) _ = _
                simp only [Act.put, List.setIfInBounds_toArray, List.set_cons_zero, List.set_cons_succ, i64_w, i32_w]
                rfl
              refine one_ (i := 8) (N := some 87) #[true, true, true, true, true, true, true, true, true, false, false] rfl rfl (by kernel_rfl) (by decide) (fun K hK => ?_)
              refine value_ (w1 := w1.alloc (.cells #[.int .i64 c, .int .i64 0, .int .i64 k, .slice At r.length nt] 29)) (v := .slice (some ⟨w1.heap.size, 0, none⟩) 1 1) (by rfl) rfl (by go_simp) ?_
              refine hK.out _ _ (hSz _ (below_alloc hbel1 _)) (fun hHeld => ?_)
              clear hK K
              refine norm_ (a' := ?_) ?_ ?_
              rotate_left
              · show Act.put _ (some 87) _ = _
                simp only [Act.put, List.setIfInBounds_toArray, List.set_cons_zero, List.set_cons_succ, i64_w, i32_w]
                rfl
              have h := hJ (.slice (some ⟨W0.heap.size, 0, none⟩) 0 0, v85, .slice (some ⟨w1.heap.size, 0, none⟩) 1 1) _ (jf_late hrow1 hbel1 hfr1)
              simp only [putAll, Act.put, List.setIfInBounds_toArray, List.set_cons_zero, List.set_cons_succ] at h
              exact h
            · clear hrun1 hrow1 hbel1 hfr1 hkeep1 hsz1
              clear w1 v85
              have hb2 := below_alloc (below_alloc (Below.refl W0.heap.size W0) (.cells #[] 29)) (.cells #[.int .i64 c, .int .i64 0, .int .i64 k, .slice At r.length nt] 29)
              have hg2 := ((below_alloc (Below.refl (W0.alloc (.cells #[] 29)).heap.size _) (.cells #[.int .i64 c, .int .i64 0, .int .i64 k, .slice At r.length nt] 29)).block W0.heap.size (by simp)).trans (heap_alloc_new W0 (.cells #[] 29 (0, 0)))
              have hq2 : ((W0.alloc (.cells #[] 29)).alloc (.cells #[.int .i64 c, .int .i64 0, .int .i64 k, .slice At r.length nt] 29)).heap[W0.heap.size + 1]? = some (.cells #[.int .i64 c, .int .i64 0, .int .i64 k, .slice At r.length nt] 29 (0, 0)) := by have h := heap_alloc_new (W0.alloc (.cells #[] 29)) (.cells #[.int .i64 c, .int .i64 0, .int .i64 k, .slice At r.length nt] 29 (0, 0)); simpa using h
              refine value_ (w1 := (W0.alloc (.cells #[] 29)).alloc (.cells #[.int .i64 c, .int .i64 0, .int .i64 k, .slice At r.length nt] 29)) (v := .slice (some ⟨W0.heap.size + 1, 0, none⟩) 1 1) (by rfl) rfl (by go_simp) ?_
              refine hK.out _ _ (hSz _ (hb2)) (fun hHeld => ?_)
              clear hK K
              refine norm_ (a' := ?_) ?_ ?_
              rotate_left
              · show Act.put _ (some 87) _ = _
                simp only [Act.put, List.setIfInBounds_toArray, List.set_cons_zero, List.set_cons_succ, i64_w, i32_w]
                rfl
              refine one_ (i := 6) (N := some 85) #[true, true, true, true, true, true, true, true, true, false, false] rfl rfl (by kernel_rfl) (by decide) (fun K hK => ?_)
              obtain ⟨v85, w1, hrun1, hrow1, hbel1, hfr1, hkeep1, hsz1⟩ := jf_one (hb2) hbase (hg2) (Nat.le_refl _) (hrow0.below (hb2)) hl0
              refine step_append_row (by rfl) rfl (.tmp 81) (.tmp 84) rfl rfl rfl hrun1 ?_
              refine hK.out _ _ (hSz _ hbel1) (fun hHeld => ?_)
              clear hK K
              refine norm_ (a' := ?_) ?_ ?_
              rotate_left
              · show Act.put _ (some 85) _ = _
                simp only [Act.put, List.setIfInBounds_toArray, List.set_cons_zero, List.set_cons_succ, i64_w, i32_w]
                rfl
              have h := hJ (.slice (some ⟨W0.heap.size, 0, none⟩) 0 0, v85, .slice (some ⟨W0.heap.size + 1, 0, none⟩) 1 1) _ (jf_early hrow1 hbel1 hfr1 hkeep1 hq2 (Nat.le_succ _) (Nat.succ_ne_self _))
              simp only [putAll, Act.put, List.setIfInBounds_toArray, List.set_cons_zero, List.set_cons_succ] at h
              exact h
          · skip
            refine value_ (w1 := W0.alloc (.cells #[.int .i64 c, .int .i64 0, .int .i64 k, .slice At r.length nt] 29)) (v := .slice (some ⟨W0.heap.size, 0, none⟩) 1 1) (by rfl) rfl (by go_simp) ?_
            refine hK.out _ _ (hSz _ (below_alloc (Below.refl W0.heap.size W0) (.cells #[.int .i64 c, .int .i64 0, .int .i64 k, .slice At r.length nt] 29))) (fun hHeld => ?_)
            clear hK K
            refine norm_ (a' := ?_) ?_ ?_
            rotate_left
            · show Act.put _ (some 87) _ = _
              simp only [Act.put, List.setIfInBounds_toArray, List.set_cons_zero, List.set_cons_succ, i64_w, i32_w]
              rfl
            refine one_ (i := 2) (N := some 81) #[true, true, true, true, true, true, false, true, true, false, false] rfl rfl (by kernel_rfl) (by decide) (fun K hK => ?_)
            have hb2 := below_alloc (below_alloc (Below.refl W0.heap.size W0) (.cells #[.int .i64 c, .int .i64 0, .int .i64 k, .slice At r.length nt] 29)) (.cells #[] 29)
            have hq2 := ((below_alloc (Below.refl (W0.alloc (.cells #[.int .i64 c, .int .i64 0, .int .i64 k, .slice At r.length nt] 29)).heap.size _) (.cells #[] 29)).block W0.heap.size (by simp)).trans (heap_alloc_new W0 (.cells #[.int .i64 c, .int .i64 0, .int .i64 k, .slice At r.length nt] 29 (0, 0)))
            have hg2 : ((W0.alloc (.cells #[.int .i64 c, .int .i64 0, .int .i64 k, .slice At r.length nt] 29)).alloc (.cells #[] 29)).heap[W0.heap.size + 1]? = some (.cells #[] 29 (0, 0)) := by have h := heap_alloc_new (W0.alloc (.cells #[.int .i64 c, .int .i64 0, .int .i64 k, .slice At r.length nt] 29)) (.cells #[] 29 (0, 0)); simpa using h
            refine value_ (w1 := (W0.alloc (.cells #[.int .i64 c, .int .i64 0, .int .i64 k, .slice At r.length nt] 29)).alloc (.cells #[] 29)) (v := .slice (some ⟨W0.heap.size + 1, 0, none⟩) 0 0) (by rfl) rfl (by go_simp) ?_
            refine hK.out _ _ (hSz _ (hb2)) (fun hHeld => ?_)
            clear hK K
            refine norm_ (a' := ?_) ?_ ?_
            rotate_left
            · show Act.put _ (some 81) _ = _
              simp only [Act.put, List.setIfInBounds_toArray, List.set_cons_zero, List.set_cons_succ, i64_w, i32_w]
              rfl
            refine one_ (i := 6) (N := some 85) #[true, true, true, true, true, true, true, true, true, false, false] rfl rfl (by kernel_rfl) (by decide) (fun K hK => ?_)
            obtain ⟨v85, w1, hrun1, hrow1, hbel1, hfr1, hkeep1, hsz1⟩ := jf_one (hb2) hbase (hg2) (Nat.le_succ _) (hrow0.below (hb2)) hl0
            refine step_append_row (by rfl) rfl (.tmp 81) (.tmp 84) rfl rfl rfl hrun1 ?_
            refine hK.out _ _ (hSz _ hbel1) (fun hHeld => ?_)
            clear hK K
            refine norm_ (a' := ?_) ?_ ?_
            rotate_left
            · show Act.put _ (some 85) _ = _
              simp only [Act.put, List.setIfInBounds_toArray, List.set_cons_zero, List.set_cons_succ, i64_w, i32_w]
              rfl
            have h := hJ (.slice (some ⟨W0.heap.size + 1, 0, none⟩) 0 0, v85, .slice (some ⟨W0.heap.size, 0, none⟩) 1 1) _ (jf_early hrow1 hbel1 hfr1 hkeep1 hq2 (Nat.le_refl _) (fun e => Nat.succ_ne_self _ e.symm))
            simp only [putAll, Act.put, List.setIfInBounds_toArray, List.set_cons_zero, List.set_cons_succ] at h
            exact h
        rintro ⟨v81, v85, v87⟩ W1 hJF
        refine norm_ (a' := ?_) ?_ ?_
        rotate_left
        · simp only [putAll, Act.put, List.setIfInBounds_toArray, List.set_cons_zero, List.set_cons_succ]
          rfl
        obtain ⟨v88, w2_, hrun2, hrow2, hbel2, hfr2⟩ := jf_end hJF hbase hl0
        refine one_ (i := 9) (N := some 88) #[true, true, true, true, true, true, true, true, true, true, false] rfl rfl (by kernel_rfl) (by decide) (fun K hK => ?_)
        refine step_append_row (by rfl) rfl (.tmp 85) (.tmp 87) rfl rfl rfl hrun2 ?_
        refine hK.out _ _ (hSz _ hbel2) (fun hHeld => ?_)
        clear hK K
        refine norm_ (a' := ?_) ?_ ?_
        rotate_left
        · show Act.put _ (some 88) _ = _
          simp only [Act.put, List.setIfInBounds_toArray, List.set_cons_zero, List.set_cons_succ, i64_w, i32_w]
          rfl
        have hme := hmz.turn (S := fun _ => False) (Turn.of_below hbel2) (fun _ _ h => h)
        obtain ⟨w21, hrun3, hmap3, hturn3⟩ := hme.map.store keyed3 Try.underlying43 (by simp only [maxLen]; omega) (key3 c (wf_small _ (by omega) (by omega))) (val := v88) (d := .held v88) (ps := []) rfl
        refine last_ (i := 10) (N := none) #[true, true, true, true, true, true, true, true, true, true, true] rfl rfl (by kernel_rfl) (by decide) (fun K hK => ?_)
        refine skip_ (w1 := w21) (by rfl) rfl (by go_simp) ?_
        refine hK.out _ _ ?_
        clear hK K
        refine done_ (by kernel_rfl) ?_
        obtain ⟨hP21, hT21⟩ := hPz.set c ⟨by omega, by omega⟩ hmz hbel2 hrow2 hfr2 hmap3 hturn3 (hsub21) (by simp; have := hPz.lm c; omega)
        have hB21 := (hB11.below hW0).turn hT21 (fun q hq e => (hPz.XM q (hF9 q hq)).1 (e ▸ hm.Mb))
        have hBo21 := (hBo11.below hW0).turn hT21 (fun q hq e => (hPz.XM q (.inl (.inr hq))).1 (e ▸ hm.Mb))
        have hee21 := (hT21.block w6.heap.size (by have := hW0.size; omega) (fun e => by omega)).trans ((hW0.block _ (blk_lt hee11)).trans hee11)
        have hs21 : w11.heap.size ≤ w21.heap.size := Nat.le_trans hW0.size hT21.size
        obtain ⟨m1, hm1⟩ : ∃ m1 : Int → List Dv, m1 = (fun q => if q = c then m c ++ [⟨c, 0, k, At, r.length, nt⟩] else m q) := ⟨_, rfl⟩
        rw [← hm1] at hP21
        clear hP11 hB11 hBo11 hm hlk hS21 hsub21 hPz hmz hrow0 hbase hl0 hJF hrun2 hrow2 hbel2 hfr2 hme hmap3 hturn3 hrun3 hT21 hHeld hSz hW0 hdd11 hee11
        go_wp2
        obtain ⟨mv, D, hm, hlk⟩ := hP21.look
        have hS22 : ∀ w', Below w21.heap.size w21 w' → (Instr.lookup 43 (.map (some bm)) (.int .i64 c2) false).run Try.prog w' = .ok (mv c2) w' ∧ w'.cell? ⟨w6.heap.size, 0, none⟩ = some (.int .i64 c2) ∧ w'.cell? ⟨w6.heap.size, 1, none⟩ = some (.int .i64 0) ∧ w'.cell? ⟨w6.heap.size, 2, none⟩ = some (.int .i64 (100 + k)) ∧ w'.cell? ⟨w6.heap.size, 3, none⟩ = some (.slice none 0 0) := fun w' hW => by
          have h := hm.turn (Turn.of_below (S := fun _ => False) hW) (fun _ _ h => h)
          have hd := (hW.block w6.heap.size (blk_lt hee21)).trans hee21
          exact ⟨run_look h.map hcw2 (h.at_ c2 hcw2), (blk_cell hd 0).trans rfl, (blk_cell hd 1).trans rfl, (blk_cell hd 2).trans rfl, (blk_cell hd 3).trans rfl⟩
        have hsub22 : ∀ d ∈ m1 c2 ++ [⟨c2, 0, 100 + k, none, 0, 0⟩], d ∈ all ++ [⟨c, 0, k, At, r.length, nt⟩, ⟨c2, 0, 100 + k, none, 0, 0⟩] := fun d hd => by
          rcases List.mem_append.1 hd with h | h
          · exact hP21.sub c2 d h
          · exact List.mem_append.2 (.inr (by simp at h; simp [h]))
        refine start_ (n := 13) (S := fun w' => (Instr.lookup 43 (.map (some bm)) (.int .i64 c2) false).run Try.prog w' = .ok (mv c2) w' ∧ w'.cell? ⟨w6.heap.size, 0, none⟩ = some (.int .i64 c2) ∧ w'.cell? ⟨w6.heap.size, 1, none⟩ = some (.int .i64 0) ∧ w'.cell? ⟨w6.heap.size, 2, none⟩ = some (.int .i64 (100 + k)) ∧ w'.cell? ⟨w6.heap.size, 3, none⟩ = some (.slice none 0 0)) (ds := [12]) #[false, false, false, false, false, false, false, false, false, false, false, false, false] (by kernel_rfl) rfl rfl (hS22 _ (below_drew1 (Below.refl _ _))) (fun hHeld => ?_)
        have hW0 : Below w21.heap.size w21 w21.drew := below_drew1 (Below.refl _ _)
        have hSz := fun (W : World) (hW : Below w21.drew.heap.size w21.drew W) => hS22 W (below_step hW0 hW)
        generalize w21.drew = W0 at hW0 hHeld hSz ⊢
        have hPz := hP21.below hW0
        have hmz := hm.turn (S := fun _ => False) (Turn.of_below hW0) (fun _ _ h => h)
        have hrow0 := hmz.row c2
        have hbase := hPz.bel.size
        have hl0 : (m1 c2).length ≤ 1048575 := by have := hPz.lm c2; omega
        refine pure_ (i := 0) (N := some 89) (v := ?_) (a' := ?_) #[true, false, false, false, false, false, false, false, false, false, false, false, false] rfl rfl (by kernel_rfl) (fun _ _ _ h => h) (Or.inl ⟨by rfl, ?_⟩) ?_ ?_
        rotate_left
        · intro w'
          go_simp
          with_reducible rfl
        rotate_left
        · simp only [Act.put, List.setIfInBounds_toArray, List.set_cons_zero, List.set_cons_succ, i64_w, i32_w]
          rfl
        refine pure_ (i := 1) (N := some 90) (v := ?_) (a' := ?_) #[true, true, false, false, false, false, false, false, false, false, false, false, false] rfl rfl (by kernel_rfl) (fun _ _ _ h => h) (Or.inl ⟨by rfl, ?_⟩) ?_ ?_
        rotate_left
        · intro w'
          go_simp
          with_reducible rfl
        rotate_left
        · simp only [Act.put, List.setIfInBounds_toArray, List.set_cons_zero, List.set_cons_succ, i64_w, i32_w]
          rfl
        refine take_ (i := 2) (N := some 91) (v := ?_) (a' := ?_) #[true, true, true, false, false, false, false, false, false, false, false, false, false] rfl rfl (by kernel_rfl) (fun _ _ _ h => h) (Or.inl ⟨by rfl, ?_⟩) hHeld ?_ ?_
        rotate_left
        · rintro w' ⟨s0, s1, s2, s3, s4⟩
          go_simp
          with_reducible rfl
        rotate_left
        · simp only [Act.put, List.setIfInBounds_toArray, List.set_cons_zero, List.set_cons_succ, i64_w, i32_w]
          rfl
        refine pure_ (i := 4) (N := some 93) (v := ?_) (a' := ?_) #[true, true, true, false, true, false, false, false, false, false, false, false, false] rfl rfl (by kernel_rfl) (fun _ _ _ h => h) (Or.inl ⟨by rfl, ?_⟩) ?_ ?_
        rotate_left
        · intro w'
          go_simp
          with_reducible rfl
        rotate_left
        · simp only [Act.put, List.setIfInBounds_toArray, List.set_cons_zero, List.set_cons_succ, i64_w, i32_w]
          rfl
        refine pure_ (i := 5) (N := some 94) (v := ?_) (a' := ?_) #[true, true, true, false, true, true, false, false, false, false, false, false, false] rfl rfl (by kernel_rfl) (fun _ _ _ h => h) (Or.inl ⟨by rfl, ?_⟩) ?_ ?_
        rotate_left
        · intro w'
          go_simp
          with_reducible rfl
        rotate_left
        · simp only [Act.put, List.setIfInBounds_toArray, List.set_cons_zero, List.set_cons_succ, i64_w, i32_w]
          rfl
        refine take_ (i := 6) (N := some 95) (v := ?_) (a' := ?_) #[true, true, true, false, true, true, true, false, false, false, false, false, false] rfl rfl (by kernel_rfl) (fun _ _ _ h => h) (Or.inl ⟨by rfl, ?_⟩) hHeld ?_ ?_
        rotate_left
        · rintro w' ⟨s0, s1, s2, s3, s4⟩
          go_simp
          with_reducible rfl
        rotate_left
        · simp only [Act.put, List.setIfInBounds_toArray, List.set_cons_zero, List.set_cons_succ, i64_w, i32_w]
          rfl
        refine take_ (i := 7) (N := some 96) (v := ?_) (a' := ?_) #[true, true, true, false, true, true, true, true, false, false, false, false, false] rfl rfl (by kernel_rfl) (fun _ _ _ h => h) (Or.inl ⟨by rfl, ?_⟩) hHeld ?_ ?_
        rotate_left
        · rintro w' ⟨s0, s1, s2, s3, s4⟩
          go_simp
          with_reducible rfl
        rotate_left
        · simp only [Act.put, List.setIfInBounds_toArray, List.set_cons_zero, List.set_cons_succ, i64_w, i32_w]
          rfl
        refine take_ (i := 9) (N := some 98) (v := ?_) (a' := ?_) #[true, true, true, false, true, true, true, true, false, true, false, false, false] rfl rfl (by kernel_rfl) (fun _ _ _ h => h) (Or.inl ⟨by rfl, ?_⟩) hHeld ?_ ?_
        rotate_left
        · rintro w' ⟨s0, s1, s2, s3, s4⟩
          go_simp
          with_reducible rfl
        rotate_left
        · simp only [Act.put, List.setIfInBounds_toArray, List.set_cons_zero, List.set_cons_succ, i64_w, i32_w]
          rfl
        refine join_ (σ := Value × Value × Value) 2 #[true, true, true, true, true, true, true, true, true, true, true, false, false] (fun s => [(92, s.1), (97, s.2.1), (99, s.2.2)]) (fun s W => JF W0 w.heap.size (m1 c2) (⟨c2, 0, 100 + k, none, 0, 0⟩ : Dv) s.2.1 s.2.2 W) ?_ ?_
        rotate_left
        · intro hJ
          refine two_ (i := 3) (j := 10) (Ni := some 92) (Nj := some 99) #[true, true, true, true, true, true, true, true, false, true, false, false, false] #[true, true, true, false, true, true, true, true, false, true, true, false, false] rfl rfl rfl rfl (by kernel_rfl) (by decide) (by decide) (fun K hK => ?_) (fun K hK => ?_)
          · skip
            refine value_ (w1 := W0.alloc (.cells #[] 29)) (v := .slice (some ⟨W0.heap.size, 0, none⟩) 0 0) (by rfl) rfl (by go_simp) ?_
            refine hK.out _ _ (hSz _ (below_alloc (Below.refl W0.heap.size W0) (.cells #[] 29))) (fun hHeld => ?_)
            clear hK K
            refine norm_ (a' := ?_) ?_ ?_
            rotate_left
            · show Act.put _ (some 92) _ = _
              simp only [Act.put, List.setIfInBounds_toArray, List.set_cons_zero, List.set_cons_succ, i64_w, i32_w]
              rfl
            obtain ⟨v85, w1, hrun1, hrow1, hbel1, hfr1, hkeep1, hsz1⟩ := jf_one (below_alloc (Below.refl W0.heap.size W0) (.cells #[] 29)) hbase (heap_alloc_new W0 _) (Nat.le_refl _) (hrow0.below (below_alloc (Below.refl W0.heap.size W0) (.cells #[] 29))) hl0
            refine two_ (i := 8) (j := 10) (Ni := some 97) (Nj := some 99) #[true, true, true, true, true, true, true, true, true, true, false, false, false] #[true, true, true, true, true, true, true, true, false, true, true, false, false] rfl rfl rfl rfl (by kernel_rfl) (by decide) (by decide) (fun K hK => ?_) (fun K hK => ?_)
            · skip
              refine step_append_row (by rfl) rfl (.tmp 92) (.tmp 96) rfl rfl rfl hrun1 ?_
              refine hK.out _ _ (hSz _ hbel1) (fun hHeld => ?_)
              clear hK K
              refine norm_ (a' := ?_) ?_ ?_
              rotate_left
              · show Act.put _ (some 97) _ = _
                simp only [Act.put, List.setIfInBounds_toArray, List.set_cons_zero, List.set_cons_succ, i64_w, i32_w]
                rfl
              refine one_ (i := 10) (N := some 99) #[true, true, true, true, true, true, true, true, true, true, true, false, false] rfl rfl (by kernel_rfl) (by decide) (fun K hK => ?_)
              refine value_ (w1 := w1.alloc (.cells #[.int .i64 c2, .int .i64 0, .int .i64 (100 + k), .slice none 0 0] 29)) (v := .slice (some ⟨w1.heap.size, 0, none⟩) 1 1) (by rfl) rfl (by go_simp) ?_
              refine hK.out _ _ (hSz _ (below_alloc hbel1 _)) (fun hHeld => ?_)
              clear hK K
              refine norm_ (a' := ?_) ?_ ?_
              rotate_left
              · show Act.put _ (some 99) _ = _
                simp only [Act.put, List.setIfInBounds_toArray, List.set_cons_zero, List.set_cons_succ, i64_w, i32_w]
                rfl
              have h := hJ (.slice (some ⟨W0.heap.size, 0, none⟩) 0 0, v85, .slice (some ⟨w1.heap.size, 0, none⟩) 1 1) _ (jf_late hrow1 hbel1 hfr1)
              simp only [putAll, Act.put, List.setIfInBounds_toArray, List.set_cons_zero, List.set_cons_succ] at h
              exact h
            · clear hrun1 hrow1 hbel1 hfr1 hkeep1 hsz1
              clear w1 v85
              have hb2 := below_alloc (below_alloc (Below.refl W0.heap.size W0) (.cells #[] 29)) (.cells #[.int .i64 c2, .int .i64 0, .int .i64 (100 + k), .slice none 0 0] 29)
              have hg2 := ((below_alloc (Below.refl (W0.alloc (.cells #[] 29)).heap.size _) (.cells #[.int .i64 c2, .int .i64 0, .int .i64 (100 + k), .slice none 0 0] 29)).block W0.heap.size (by simp)).trans (heap_alloc_new W0 (.cells #[] 29 (0, 0)))
              have hq2 : ((W0.alloc (.cells #[] 29)).alloc (.cells #[.int .i64 c2, .int .i64 0, .int .i64 (100 + k), .slice none 0 0] 29)).heap[W0.heap.size + 1]? = some (.cells #[.int .i64 c2, .int .i64 0, .int .i64 (100 + k), .slice none 0 0] 29 (0, 0)) := by have h := heap_alloc_new (W0.alloc (.cells #[] 29)) (.cells #[.int .i64 c2, .int .i64 0, .int .i64 (100 + k), .slice none 0 0] 29 (0, 0)); simpa using h
              refine value_ (w1 := (W0.alloc (.cells #[] 29)).alloc (.cells #[.int .i64 c2, .int .i64 0, .int .i64 (100 + k), .slice none 0 0] 29)) (v := .slice (some ⟨W0.heap.size + 1, 0, none⟩) 1 1) (by rfl) rfl (by go_simp) ?_
              refine hK.out _ _ (hSz _ (hb2)) (fun hHeld => ?_)
              clear hK K
              refine norm_ (a' := ?_) ?_ ?_
              rotate_left
              · show Act.put _ (some 99) _ = _
                simp only [Act.put, List.setIfInBounds_toArray, List.set_cons_zero, List.set_cons_succ, i64_w, i32_w]
                rfl
              refine one_ (i := 8) (N := some 97) #[true, true, true, true, true, true, true, true, true, true, true, false, false] rfl rfl (by kernel_rfl) (by decide) (fun K hK => ?_)
              obtain ⟨v85, w1, hrun1, hrow1, hbel1, hfr1, hkeep1, hsz1⟩ := jf_one (hb2) hbase (hg2) (Nat.le_refl _) (hrow0.below (hb2)) hl0
              refine step_append_row (by rfl) rfl (.tmp 92) (.tmp 96) rfl rfl rfl hrun1 ?_
              refine hK.out _ _ (hSz _ hbel1) (fun hHeld => ?_)
              clear hK K
              refine norm_ (a' := ?_) ?_ ?_
              rotate_left
              · show Act.put _ (some 97) _ = _
                simp only [Act.put, List.setIfInBounds_toArray, List.set_cons_zero, List.set_cons_succ, i64_w, i32_w]
                rfl
              have h := hJ (.slice (some ⟨W0.heap.size, 0, none⟩) 0 0, v85, .slice (some ⟨W0.heap.size + 1, 0, none⟩) 1 1) _ (jf_early hrow1 hbel1 hfr1 hkeep1 hq2 (Nat.le_succ _) (Nat.succ_ne_self _))
              simp only [putAll, Act.put, List.setIfInBounds_toArray, List.set_cons_zero, List.set_cons_succ] at h
              exact h
          · skip
            refine value_ (w1 := W0.alloc (.cells #[.int .i64 c2, .int .i64 0, .int .i64 (100 + k), .slice none 0 0] 29)) (v := .slice (some ⟨W0.heap.size, 0, none⟩) 1 1) (by rfl) rfl (by go_simp) ?_
            refine hK.out _ _ (hSz _ (below_alloc (Below.refl W0.heap.size W0) (.cells #[.int .i64 c2, .int .i64 0, .int .i64 (100 + k), .slice none 0 0] 29))) (fun hHeld => ?_)
            clear hK K
            refine norm_ (a' := ?_) ?_ ?_
            rotate_left
            · show Act.put _ (some 99) _ = _
              simp only [Act.put, List.setIfInBounds_toArray, List.set_cons_zero, List.set_cons_succ, i64_w, i32_w]
              rfl
            refine one_ (i := 3) (N := some 92) #[true, true, true, true, true, true, true, true, false, true, true, false, false] rfl rfl (by kernel_rfl) (by decide) (fun K hK => ?_)
            have hb2 := below_alloc (below_alloc (Below.refl W0.heap.size W0) (.cells #[.int .i64 c2, .int .i64 0, .int .i64 (100 + k), .slice none 0 0] 29)) (.cells #[] 29)
            have hq2 := ((below_alloc (Below.refl (W0.alloc (.cells #[.int .i64 c2, .int .i64 0, .int .i64 (100 + k), .slice none 0 0] 29)).heap.size _) (.cells #[] 29)).block W0.heap.size (by simp)).trans (heap_alloc_new W0 (.cells #[.int .i64 c2, .int .i64 0, .int .i64 (100 + k), .slice none 0 0] 29 (0, 0)))
            have hg2 : ((W0.alloc (.cells #[.int .i64 c2, .int .i64 0, .int .i64 (100 + k), .slice none 0 0] 29)).alloc (.cells #[] 29)).heap[W0.heap.size + 1]? = some (.cells #[] 29 (0, 0)) := by have h := heap_alloc_new (W0.alloc (.cells #[.int .i64 c2, .int .i64 0, .int .i64 (100 + k), .slice none 0 0] 29)) (.cells #[] 29 (0, 0)); simpa using h
            refine value_ (w1 := (W0.alloc (.cells #[.int .i64 c2, .int .i64 0, .int .i64 (100 + k), .slice none 0 0] 29)).alloc (.cells #[] 29)) (v := .slice (some ⟨W0.heap.size + 1, 0, none⟩) 0 0) (by rfl) rfl (by go_simp) ?_
            refine hK.out _ _ (hSz _ (hb2)) (fun hHeld => ?_)
            clear hK K
            refine norm_ (a' := ?_) ?_ ?_
            rotate_left
            · show Act.put _ (some 92) _ = _
              simp only [Act.put, List.setIfInBounds_toArray, List.set_cons_zero, List.set_cons_succ, i64_w, i32_w]
              rfl
            refine one_ (i := 8) (N := some 97) #[true, true, true, true, true, true, true, true, true, true, true, false, false] rfl rfl (by kernel_rfl) (by decide) (fun K hK => ?_)
            obtain ⟨v85, w1, hrun1, hrow1, hbel1, hfr1, hkeep1, hsz1⟩ := jf_one (hb2) hbase (hg2) (Nat.le_succ _) (hrow0.below (hb2)) hl0
            refine step_append_row (by rfl) rfl (.tmp 92) (.tmp 96) rfl rfl rfl hrun1 ?_
            refine hK.out _ _ (hSz _ hbel1) (fun hHeld => ?_)
            clear hK K
            refine norm_ (a' := ?_) ?_ ?_
            rotate_left
            · show Act.put _ (some 97) _ = _
              simp only [Act.put, List.setIfInBounds_toArray, List.set_cons_zero, List.set_cons_succ, i64_w, i32_w]
              rfl
            have h := hJ (.slice (some ⟨W0.heap.size + 1, 0, none⟩) 0 0, v85, .slice (some ⟨W0.heap.size, 0, none⟩) 1 1) _ (jf_early hrow1 hbel1 hfr1 hkeep1 hq2 (Nat.le_refl _) (fun e => Nat.succ_ne_self _ e.symm))
            simp only [putAll, Act.put, List.setIfInBounds_toArray, List.set_cons_zero, List.set_cons_succ] at h
            exact h
        rintro ⟨v81, v85, v87⟩ W1 hJF
        refine norm_ (a' := ?_) ?_ ?_
        rotate_left
        · simp only [putAll, Act.put, List.setIfInBounds_toArray, List.set_cons_zero, List.set_cons_succ]
          rfl
        obtain ⟨v88, w2_, hrun2, hrow2, hbel2, hfr2⟩ := jf_end hJF hbase hl0
        refine one_ (i := 11) (N := some 100) #[true, true, true, true, true, true, true, true, true, true, true, true, false] rfl rfl (by kernel_rfl) (by decide) (fun K hK => ?_)
        refine step_append_row (by rfl) rfl (.tmp 97) (.tmp 99) rfl rfl rfl hrun2 ?_
        refine hK.out _ _ (hSz _ hbel2) (fun hHeld => ?_)
        clear hK K
        refine norm_ (a' := ?_) ?_ ?_
        rotate_left
        · show Act.put _ (some 100) _ = _
          simp only [Act.put, List.setIfInBounds_toArray, List.set_cons_zero, List.set_cons_succ, i64_w, i32_w]
          rfl
        have hme := hmz.turn (S := fun _ => False) (Turn.of_below hbel2) (fun _ _ h => h)
        obtain ⟨w22, hrun3, hmap3, hturn3⟩ := hme.map.store keyed3 Try.underlying43 (by simp only [maxLen]; omega) (key3 c2 (wf_small _ (by omega) (by omega))) (val := v88) (d := .held v88) (ps := []) rfl
        refine last_ (i := 12) (N := none) #[true, true, true, true, true, true, true, true, true, true, true, true, true] rfl rfl (by kernel_rfl) (by decide) (fun K hK => ?_)
        refine skip_ (w1 := w22) (by rfl) rfl (by go_simp) ?_
        refine hK.out _ _ ?_
        clear hK K
        refine done_ (by kernel_rfl) ?_
        obtain ⟨hP22, hT22⟩ := hPz.set c2 ⟨by omega, by omega⟩ hmz hbel2 hrow2 hfr2 hmap3 hturn3 (hsub22) (by simp; have := hPz.lm c2; omega)
        have hB22 := (hB21.below hW0).turn hT22 (fun q hq e => (hPz.XM q (hF9 q hq)).1 (e ▸ hm.Mb))
        have hBoT := (hBo21.below hW0).turn hT22 (fun q hq e => (hPz.XM q (.inl (.inr hq))).1 (e ▸ hm.Mb))
        have hs22 : w21.heap.size ≤ w22.heap.size := Nat.le_trans hW0.size hT22.size
        have hmEq : (fun q => if q = c2 then m1 c2 ++ [⟨c2, 0, 100 + k, none, 0, 0⟩] else m1 q) = putTo m [⟨c, 0, k, At, r.length, nt⟩, ⟨c2, 0, 100 + k, none, 0, 0⟩] := by rw [hm1]; exact put_two m ⟨c, 0, k, At, r.length, nt⟩ ⟨c2, 0, 100 + k, none, 0, 0⟩
        rw [hmEq] at hP22
        obtain ⟨F9, hF9d⟩ : ∃ F9 : Nat → Prop, F9 = fun q => (F q ∨ N8 ≤ q) ∧ q < w9.heap.size := ⟨_, rfl⟩
        have hBT : Box w22 w.heap.size gb (2 * (k + 1)) F9 (putTo m [⟨c, 0, k, At, r.length, nt⟩, ⟨c2, 0, 100 + k, none, 0, 0⟩]) (all ++ [⟨c, 0, k, At, r.length, nt⟩, ⟨c2, 0, 100 + k, none, 0, 0⟩]) := by rw [hF9d]; exact hB22.grow (by simp; omega)
        have hPT := (hP22.grow (show 4 * k + 2 + 1 + 1 ≤ 4 * (k + 1) by omega)).mono (X' := fun q => F9 q ∨ w2.heap.size ≤ q ∧ q < w3.heap.size) (fun q hq => hq.elim (fun h => hF9 q (by rw [hF9d] at h; exact h)) (fun h => .inl (.inr h)))
        have hdj : ∀ q, F9 q → ¬ (w2.heap.size ≤ q ∧ q < w3.heap.size) := fun q h1 h2 => by
          rw [hF9d] at h1
          rcases h1.1 with h | h
          · have := hFo q h; omega
          · omega
        clear hP21 hB21 hBo21 hB22 hm hlk hS22 hsub22 hPz hmz hrow0 hbase hl0 hJF hrun2 hrow2 hbel2 hfr2 hme hmap3 hturn3 hrun3 hT22 hHeld hSz hW0 hee21 hP22
        have hlF : ∀ q, F9 q → q < w22.heap.size := fun q hq => hPT.lt q (.inr (.inr (.inl hq)))
        have hw3T : w3.heap.size ≤ w22.heap.size := by omega
        have hNT : 2 * (k + 1) ≤ 1048576 := by omega
        have hNT4 : 4 * (k + 1) ≤ 1048576 := by omega
        go_wp2_with (first | (go_at_call 8; refine (put_calls (ds := [⟨c, 0, 0, none, 0, 0⟩]) (hBoT.below (below_alloc (Below.refl _ _) _)) (row_lit w22 0 (Nat.zero_le _) [⟨c, 0, 0, none, 0, 0⟩] (by simp)) (fun q hq hF => by cases hq; have hF2 : w22.heap.size < w3.heap.size := hF.2; omega) (fun d hd => by simp only [List.mem_singleton] at hd; subst hd; exact hcw) (by simp; omega)).mono ?_; rintro e w14 ⟨rfl, hBo14, hT14⟩; have hP14 := (hPT.below (below_alloc (Below.refl _ _) _)).step (hT14.mono (fun q hq => .inr hq)); have hB14 := (hBT.below (below_alloc (Below.refl _ _) _)).turn hT14 hdj; have hBo14t := hBo14.trim) | (go_at_call 10; (with_reducible refine (drain_calls hBo14t c hcw (by simp; omega)).mono ?_); rintro e w15 ⟨v15, rfl, hr15, hBo15, hT15⟩; have hP15 := hP14.step (hT15.mono (fun q hq => hq.1.elim (fun h => .inl (.inr h)) (fun h => .inr ⟨h, hq.2⟩))); have hB15 := hB14.turn hT15 (fun q h1 h2 => h2.1.elim (hdj q h1) (fun h => by have := hlF q h1; simp at h; omega))) | go_in)
        have hPS := hP15.mono (X' := F9) (fun q hq => .inl (.inl (.inl hq)))
        clear hPT hBT hBoT hBo14 hT14 hP14 hB14 hBo14t hr15 hBo15 hT15 hP15 hlF
        go_loopw [109] (fun v w16 => ∃ j : Nat, j ≤ 5 ∧ v = .int .i64 j ∧ Below w15.heap.size w15 w16) (fun v _ => 5 - (intOf v).toNat)
        case atStart => exact ⟨0, Nat.zero_le _, rfl, Below.refl _ _⟩
        case round =>
          obtain ⟨j, hj5, rfl, hbj⟩ := hrel
          have hPr := hPS.below hbj
          have hBr := hB15.below hbj
          have hnj : (Int.toNat (j : Int)) = j := Int.toNat_natCast j
          by_cases hjl : j < 5
          · have hjw : wf (j : Int) := wf_small _ (by omega) (by omega)
            obtain ⟨mv, D, hm, hlk⟩ := hPr.look
            have hS28 : ∀ W, Below wr.heap.size wr W → (Instr.lookup 43 (.map (some bm)) (.int .i64 j) false).run Try.prog W = .ok (mv j) W ∧ True := fun W hT => by
              have h := hm.turn (Turn.of_below (S := fun _ => False) hT) (fun _ _ h => h)
              exact ⟨run_look h.map hjw (h.at_ j hjw), trivial⟩
            go_wp2
            refine start_ (n := 8) (S := fun w' => (Instr.lookup 43 (.map (some bm)) (.int .i64 j) false).run Try.prog w' = .ok (mv j) w' ∧ True) (ds := []) #[false, false, false, false, false, false, false, false] (by kernel_rfl) rfl rfl (hS28 _ (below_drew1 (Below.refl _ _))) (fun hHeld => ?_)
            have hW0 : Below wr.heap.size wr wr.drew := below_drew1 (Below.refl _ _)
            generalize wr.drew = W0 at hW0 hHeld ⊢
            refine pure_ (i := 0) (N := some 112) (v := ?_) (a' := ?_) #[true, false, false, false, false, false, false, false] rfl rfl (by kernel_rfl) (fun _ _ _ h => h) (Or.inl ⟨by rfl, ?_⟩) ?_ ?_
            rotate_left
            · intro w'
              go_simp
              with_reducible rfl
            rotate_left
            · simp only [Act.put, List.setIfInBounds_toArray, List.set_cons_zero, List.set_cons_succ, i64_w, i32_w]
              rfl
            refine pure_ (i := 1) (N := some 113) (v := ?_) (a' := ?_) #[true, true, false, false, false, false, false, false] rfl rfl (by kernel_rfl) (fun _ _ _ h => h) (Or.inl ⟨by rfl, ?_⟩) ?_ ?_
            rotate_left
            · intro w'
              go_simp
              with_reducible rfl
            rotate_left
            · simp only [Act.put, List.setIfInBounds_toArray, List.set_cons_zero, List.set_cons_succ, i64_w, i32_w]
              rfl
            refine pure_ (i := 3) (N := some 115) (v := ?_) (a' := ?_) #[true, true, false, true, false, false, false, false] rfl rfl (by kernel_rfl) (fun _ _ _ h => h) (Or.inl ⟨by rfl, ?_⟩) ?_ ?_
            rotate_left
            · intro w'
              go_simp
              with_reducible rfl
            rotate_left
            · simp only [Act.put, List.setIfInBounds_toArray, List.set_cons_zero, List.set_cons_succ, i64_w, i32_w]
              rfl
            refine pure_ (i := 4) (N := some 116) (v := ?_) (a' := ?_) #[true, true, false, true, true, false, false, false] rfl rfl (by kernel_rfl) (fun _ _ _ h => h) (Or.inl ⟨by rfl, ?_⟩) ?_ ?_
            rotate_left
            · intro w'
              go_simp
              with_reducible rfl
            rotate_left
            · simp only [Act.put, List.setIfInBounds_toArray, List.set_cons_zero, List.set_cons_succ, i64_w, i32_w]
              rfl
            refine take_ (i := 5) (N := some 117) (v := ?_) (a' := ?_) #[true, true, false, true, true, true, false, false] rfl rfl (by kernel_rfl) (fun _ _ _ h => h) (Or.inl ⟨by rfl, ?_⟩) hHeld ?_ ?_
            rotate_left
            · rintro w' ⟨s0, s1⟩
              go_simp
              with_reducible rfl
            rotate_left
            · simp only [Act.put, List.setIfInBounds_toArray, List.set_cons_zero, List.set_cons_succ, i64_w, i32_w]
              rfl
            refine one_ (i := 2) (N := some 114) #[true, true, true, true, true, true, false, false] rfl rfl (by kernel_rfl) (by decide) (fun K hK => ?_)
            refine goes_ Try.func9 (by kernel_rfl) rfl #[.pointer (some ⟨gb, 0, none⟩), .int .i64 j] (by rfl) rfl rfl (by (try simp only [List.map_toArray, List.map_cons, List.map_nil]); first | done | rfl) ?_
            refine (look_calls (hBr.below hW0) j hjw hNT).mono ?_
            rintro e w16 ⟨v16, rfl, hr16, hb16⟩
            refine ⟨_, rfl, ?_⟩
            have hW1 := below_step hW0 hb16
            have hP16 := hPr.below hW1
            have hm16 := hm.turn (Turn.of_below (S := fun _ => False) hW1) (fun _ _ h => h)
            refine hK.out _ _ (hS28 _ hW1) (fun hHeld => ?_)
            clear hK K
            refine norm_ (a' := ?_) ?_ ?_
            rotate_left
            · show Act.put _ (some 114) _ = _
              simp only [Act.put, List.setIfInBounds_toArray, List.set_cons_zero, List.set_cons_succ, i64_w, i32_w]
              rfl
            refine one_ (i := 6) (N := some 118) #[true, true, true, true, true, true, true, false] rfl rfl (by kernel_rfl) (by decide) (fun K hK => ?_)
            refine goes_ Try.func14 (by kernel_rfl) rfl #[v16, mv j] (by rfl) rfl rfl (by (try simp only [List.map_toArray, List.map_cons, List.map_nil]); first | done | rfl) ?_
            refine (gots_calls hr16 (hm16.row j) (at0 r) (hP16.readsM j) (fun d hd => Nat.le_trans (at0_le r d) (by omega)) (Nat.le_trans (hPr.lm j) hNT4)).mono ?_
            rintro e w17 ⟨rfl, hb17⟩
            refine ⟨_, rfl, ?_⟩
            have hW2 := below_step hW1 hb17
            refine hK.out _ _ (hS28 _ hW2) (fun hHeld => ?_)
            clear hK K
            refine norm_ (a' := ?_) ?_ ?_
            rotate_left
            · show Act.put _ (some 118) _ = _
              simp only [Act.put, List.setIfInBounds_toArray, List.set_cons_zero, List.set_cons_succ, i64_w, i32_w]
              rfl
            refine pure_ (i := 7) (N := some 119) (v := ?_) (a' := ?_) #[true, true, true, true, true, true, true, true] rfl rfl (by kernel_rfl) (fun _ _ _ h => h) (Or.inl ⟨by rfl, ?_⟩) ?_ ?_
            rotate_left
            · intro w'
              go_simp
              with_reducible rfl
            rotate_left
            · simp only [Act.put, List.setIfInBounds_toArray, List.set_cons_zero, List.set_cons_succ, i64_w, i32_w]
              rfl
            refine done_ (by kernel_rfl) ?_
            have hbj2 := below_step hbj hW2
            clear hPr hBr hm hlk hS28 hHeld hW0 hr16 hb16 hW1 hP16 hm16 hb17 hW2 hbj
            go_wp2
            go_roundw
            case rel => exact ⟨j + 1, by omega, by go_num, hbj2⟩
            case measure => simp [intOf]; omega
          · have hje : j = 5 := by omega
            subst hje
            go_wp2_with (first | (go_at_call 11; (with_reducible refine (all_calls hBr hNT).mono ?_); rintro e w17 ⟨v17, rfl, hr17, hb17⟩; have hP17 := hPr.below hb17; have hB17 := hBr.below hb17) | (go_at_call 14; (with_reducible refine (gots_calls hr17 hP17.row (at0 r) hP17.readsAll (fun d hd => Nat.le_trans (at0_le r d) (by omega)) (Nat.le_trans hP17.la hNT4)).mono ?_); rintro e w18 ⟨rfl, hb18⟩; have hP18 := hP17.below hb18; have hB18 := hB17.below hb18) | go_in)
            go_roundw
            case rel => exact ⟨k + 1, _, _, by omega, by omega, by go_num, _, hB18, _, _, hP18⟩
            case measure => simp [intOf]; omega
    · have hcase : (k < xs.length ∧ ¬ k < 30) ∨ ¬ k < xs.length := by omega
      have hnum : (Int.toNat (k : Int)) = k := Int.toNat_natCast k
      have hz1 : (putTo m [] (-1)).length = 0 := by simp [putTo, hP.rng (-1) (.inl (by omega))]
      have hz2 : (putTo m [] 99).length = 0 := by simp [putTo, hP.rng 99 (.inr (by omega))]
      have hwm : wf (-1) := wf_small _ (by omega) (by omega)
      have hw9 : wf 99 := wf_small _ (by omega) (by omega)
      have hnoB : ∀ q, (Value.slice none 0 0).ownBlock = some q → ¬ F q := fun q hq => by simp [Value.ownBlock] at hq
      have hNe : 2 * k + ([] : List Dv).length ≤ 1048576 := by simp; omega
      rcases hcase with ⟨d1, d2⟩ | d1
      · go_wp2_with (first | (go_at_call 8; (with_reducible refine (put_calls (ds := []) hB (Row.nil _ 0) hnoB (fun d hd => by simp at hd) hNe).mono ?_); rintro e w20 ⟨rfl, hB20, hT20⟩; have hbel20 := hP.bel.trans (hT20.below hP.bel.size hP.Xs)) | (go_at_call 9; (with_reducible refine (look_calls hB20 (-1) hwm hNe).mono ?_); rintro e w21 ⟨v21, rfl, hr21, hb21⟩; have hB21 := hB20.below hb21; have hbel21 := below_step hbel20 hb21; obtain ⟨A21, c21, e21⟩ := hr21.slice; rw [hz1] at e21; subst e21) | (go_at_call 10; (with_reducible refine (drain_calls hB21 99 hw9 hNe).mono ?_); rintro e w22 ⟨v22, rfl, hr22, hB22, hT22⟩; have hbel22 := hbel21.trans (hT22.below hbel21.size (fun q hq => hq.elim (hP.Xs q) (fun h => Nat.le_trans hP.bel.size h))); obtain ⟨A22, c22, e22⟩ := hr22.slice; rw [hz2] at e22; subst e22) | (go_at_call 3; (with_reducible refine (runs_calls _).mono ?_); rintro e w23 ⟨rfl, hb23⟩; have hbel23 := below_step hbel22 hb23) | go_in)
        go_ret
        exact ⟨rfl, hbel23⟩
      · go_wp2_with (first | (go_at_call 8; (with_reducible refine (put_calls (ds := []) hB (Row.nil _ 0) hnoB (fun d hd => by simp at hd) hNe).mono ?_); rintro e w20 ⟨rfl, hB20, hT20⟩; have hbel20 := hP.bel.trans (hT20.below hP.bel.size hP.Xs)) | (go_at_call 9; (with_reducible refine (look_calls hB20 (-1) hwm hNe).mono ?_); rintro e w21 ⟨v21, rfl, hr21, hb21⟩; have hB21 := hB20.below hb21; have hbel21 := below_step hbel20 hb21; obtain ⟨A21, c21, e21⟩ := hr21.slice; rw [hz1] at e21; subst e21) | (go_at_call 10; (with_reducible refine (drain_calls hB21 99 hw9 hNe).mono ?_); rintro e w22 ⟨v22, rfl, hr22, hB22, hT22⟩; have hbel22 := hbel21.trans (hT22.below hbel21.size (fun q hq => hq.elim (hP.Xs q) (fun h => Nat.le_trans hP.bel.size h))); obtain ⟨A22, c22, e22⟩ := hr22.slice; rw [hz2] at e22; subst e22) | (go_at_call 3; (with_reducible refine (runs_calls _).mono ?_); rintro e w23 ⟨rfl, hb23⟩; have hbel23 := below_step hbel22 hb23) | go_in)
        go_ret
        exact ⟨rfl, hbel23⟩
end Go.Proofs.Ytallbobeehbkoaa.Boxes
