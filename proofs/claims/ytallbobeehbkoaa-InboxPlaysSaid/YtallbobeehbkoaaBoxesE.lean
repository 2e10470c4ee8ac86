import Derived.Test.YtallbobeehbkoaaBoxesD
namespace Go.Proofs.Ytallbobeehbkoaa.Boxes
open Go.RowKit Go.Proofs.YtallbobeehbkoaaW.PrintWords

theorem Box.trim {w : World} {base g N : Nat} {F : Nat → Prop} {m : Int → List Dv} {all : List Dv} (h : Box w base g N F m all) : Box w base g N (fun q => F q ∧ q < w.heap.size) m all := by
  obtain ⟨b, va, mv, D, h⟩ := h
  exact ⟨b, va, mv, D, { h with
    Fg := ⟨h.Fg, blk_lt h.blk⟩
    Fb := ⟨h.Fb, h.b_lt⟩
    Fm := fun k q hq => ⟨h.Fm k q hq, ((h.row k).lt q hq).2⟩
    Fa := fun q hq => ⟨h.Fa q hq, (h.arow.lt q hq).2⟩
    Fs := fun q hq => h.Fs q hq.1 }⟩
theorem Box.wider {w : World} {base g N : Nat} {F F' : Nat → Prop} {m : Int → List Dv} {all : List Dv} (h : Box w base g N F m all) (hF : ∀ q, F q → F' q) (hs : ∀ q, F' q → base ≤ q) : Box w base g N F' m all := by
  obtain ⟨b, va, mv, D, h⟩ := h
  exact ⟨b, va, mv, D, { h with
    Fg := hF _ h.Fg
    Fb := hF _ h.Fb
    Fm := fun k q hq => hF _ (h.Fm k q hq)
    Fa := fun q hq => hF _ (h.Fa q hq)
    Fs := hs }⟩
theorem Box.lt {w : World} {base g N : Nat} {F : Nat → Prop} {m : Int → List Dv} {all : List Dv} (h : Box w base g N F m all) : base ≤ w.heap.size := by
  obtain ⟨b, va, mv, D, h⟩ := h
  exact Nat.le_of_lt (Nat.lt_of_le_of_lt h.hg (blk_lt h.blk))
theorem row_lit (w : World) (base : Nat) (hb : base ≤ w.heap.size) (ds : List Dv) (hl : ds.length ≤ 1048576) : Row (w.alloc (.cells (flat ds).toArray 29)) base (.slice (some ⟨w.heap.size, 0, none⟩) ds.length ds.length) ds := by
  refine ⟨flat_length ds, .inr ⟨w.heap.size, ds.length, (flat ds).toArray, rfl, hb, heap_alloc_new w _, Nat.le_refl _, by simp only [maxLen]; omega, by simpa using flat_length ds, ?_⟩⟩
  rw [← flat_length ds]
  simp

def dv (c : Int) : Dv := ⟨c, 0, 0, none, 0, 0⟩
set_option maxHeartbeats 1000000 in
theorem runs_calls (w : World) : Calls Try.prog 3 #[] w fun e w' => e = .returned (.bool true) ∧ Below w.heap.size w w' := by
  have n1 : (putTo (fun _ => []) [dv 1, dv 2, dv 1] 1).length = 2 := rfl
  have n2 : (putTo (fun _ => []) [dv 1, dv 2, dv 1] 2).length = 1 := rfl
  have n3 : (strike (putTo (fun _ => []) [dv 1, dv 2, dv 1]) 1 1).length = 0 := rfl
  have n4 : (strike (putTo (fun _ => []) [dv 1, dv 2, dv 1]) 1 2).length = 1 := rfl
  have n5 : ([] ++ [dv 1, dv 2, dv 1] : List Dv).length = 3 := rfl
  have w1f : wf 1 := rfl
  have w2f : wf 2 := rfl
  have hwfs : ∀ d ∈ [dv 1, dv 2, dv 1], wf d.c := by
    intro d hd
    simp only [List.mem_cons, List.not_mem_nil, or_false] at hd
    rcases hd with rfl | rfl | rfl <;> rfl
  go_enter Try.func3, Try.ntmps3
  go_wp2_with (first | (go_at_call 7; refine (new_calls w w.heap.size (Nat.le_refl _)).mono ?_; rintro e w1 ⟨g, rfl, hg, hbox0, hbel⟩; have hbox1 := hbox0.trim; clear hbox0) | (go_at_call 8; refine (put_calls (ds := [dv 1, dv 2, dv 1]) (hbox1.below (below_alloc (Below.refl _ _) _)) (row_lit w1 0 (Nat.zero_le _) [dv 1, dv 2, dv 1] (by decide)) (fun q hq hF => by cases hq; exact absurd hF.2 (Nat.lt_irrefl _)) hwfs (by decide)).mono ?_; rintro e w2 ⟨rfl, hbox2, hturn2⟩) | (go_at_call 9; with_reducible refine (look_calls hbox2 1 w1f (by decide)).mono ?_; rintro e w3 ⟨v3, rfl, hrow3, hbel3⟩; obtain ⟨A3, c3, e3⟩ := hrow3.slice; rw [n1] at e3; subst e3; have hbox3 := hbox2.below hbel3) | (go_at_call 10; with_reducible refine (drain_calls hbox3 1 w1f (by decide)).mono ?_; rintro e w4 ⟨v4, rfl, hrow4, hbox4, hturn4⟩; obtain ⟨A4, c4, e4⟩ := hrow4.slice; rw [n1] at e4; subst e4) | (go_at_call 9; with_reducible refine (look_calls hbox4 1 w1f (by decide)).mono ?_; rintro e w5 ⟨v5, rfl, hrow5, hbel5⟩; obtain ⟨A5, c5, e5⟩ := hrow5.slice; rw [n3] at e5; subst e5; have hbox5 := hbox4.below hbel5) | (go_at_call 11; with_reducible refine (all_calls hbox5 (by decide)).mono ?_; rintro e w6 ⟨v6, rfl, hrow6, hbel6⟩; obtain ⟨A6, c6, e6⟩ := hrow6.slice; rw [n5] at e6; subst e6; have hbox6 := hbox5.below hbel6) | (go_at_call 9; with_reducible refine (look_calls hbox6 2 w2f (by decide)).mono ?_; rintro e w7 ⟨v7, rfl, hrow7, hbel7⟩; obtain ⟨A7, c7, e7⟩ := hrow7.slice; rw [n4] at e7; subst e7) | go_in)
  go_ret
  have hs1 : w.heap.size ≤ w1.heap.size := hbel.size
  have hB2 : Below w.heap.size w w2 := (below_alloc hbel (.cells (flat [dv 1, dv 2, dv 1]).toArray 29)).trans (hturn2.below (by simp only [World.size_alloc]; omega) (fun q hq => hq.1))
  have hB3 := below_step hB2 hbel3
  have hB4 : Below w.heap.size w w4 := hB3.trans (hturn4.below hB3.size (fun q hq => by
    rcases hq with hq | hq
    · exact hq.1
    · simp only [World.size_alloc] at hq
      omega))
  exact ⟨rfl, below_step (below_step (below_step hB4 hbel5) hbel6) hbel7⟩
end Go.Proofs.Ytallbobeehbkoaa.Boxes
