import Derived.Test.YtallbobeehbkoaaBoxesE
import Derived.Maps.RangeWalk
namespace Go.Proofs.Ytallbobeehbkoaa.Boxes
open Go.RowKit Go.Proofs.YtallbobeehbkoaaW.PrintWords Go.Proofs.YtallbobeehbkoaaW.PrintLast
set_option linter.unusedVariables false
set_option linter.unusedSimpArgs false

theorem size_le {w : World} {P : Program} {k : TypeId} {H : Type} {R : Value → Option (DataW H × List MemPlace)} {b n : Nat} {D : DataW H} (h : w.ownsMap P k R b n D) : Maps.size D ≤ n := by
  obtain ⟨es, clock, _, _, hs, rfl⟩ := h
  simpa [Maps.size, Go.length_sorted] using hs
theorem raw_inv (v : Value) (y : DataW Value × List MemPlace) (h : rawR v = some y) : ∃ c, v = (fun v : Value => v) c := ⟨v, rfl⟩

/-- A fresh row is stored for the key k. -/
theorem Box'.set {w W w3 : World} {base g N : Nat} {F : Nat → Prop} {m : Int → List Dv} {all : List Dv} {b : Nat} {va : Value} {mv : Int → Value} {D : DataW Value}
    (h : Box' w base g N F m all b va mv D) (k : Int) (hk : wf k) {v1 : Value} {ds : List Dv} (hW : Below w.heap.size w W) (hr : Row W base v1 ds) (hfr : ∀ q, v1.ownBlock = some q → w.heap.size ≤ q)
    (hm : w3.ownsMap Try.prog 3 rawR b (N + 1) (D.put (.int .i64 k) (.held v1))) (ht : W.mapTurned w3 b) (hF : ∀ q, w.heap.size ≤ q → F q) (hl : ds.length ≤ N + 1) :
    Box' w3 base g (N + 1) F (fun q => if q = k then ds else m q) all b va (fun q => if q = k then v1 else mv q) (D.put (.int .i64 k) (.held v1)) ∧ Turn F w w3 := by
  have hg3 := ht.grown
  have hblk : ∀ p, p < w.heap.size → p ≠ b → w3.heap[p]? = w.heap[p]? := fun p h1 h3 =>
    (hg3.block p (Nat.lt_of_lt_of_le h1 hW.size) (fun e => h3 (by cases e; rfl))).trans (hW.block p h1)
  have hr3 : Row w3 base v1 ds := hr.of_block fun q hq => by
    refine hg3.block q (hr.lt q hq).2 (fun e => ?_)
    cases e
    obtain ⟨cs, hcs⟩ := hr.typed b hq
    obtain ⟨es, clock, es', clock', hb2, _⟩ := ht
    rw [hb2] at hcs
    cases hcs
  have hold : ∀ {v : Value} {ds : List Dv}, Row w base v ds → Row w3 base v ds := fun {v ds} hv => hv.of_block fun q hq => hblk q (hv.lt q hq).2 (h.row_ne_b hv q hq)
  have vne : ∀ {v : Value} {ds : List Dv}, Row w base v ds → (v.ownBlock = none ∨ v.ownBlock ≠ v1.ownBlock) := fun {v ds} hv => by
    cases hvb : v.ownBlock with
    | none => exact .inl rfl
    | some x => exact .inr (fun e => by
        have := (hv.lt _ hvb).2
        have := hfr x e.symm
        omega)
  refine ⟨{ blk := (hblk g (blk_lt h.blk) h.g_ne_b).trans h.blk
            map := hm
            at_ := fun q hq => ?_
            row := fun q => ?_
            arow := hold h.arow
            apart := fun q q' hqq => ?_
            aapart := fun q => ?_
            hg := h.hg
            hb := h.hb
            Fg := h.Fg
            Fb := h.Fb
            Fm := fun q p hp => ?_
            Fa := h.Fa
            Fs := h.Fs
            lm := fun q => ?_
            la := Nat.le_succ_of_le h.la }, ⟨?_, ?_, ?_, ?_, ?_⟩⟩
  · by_cases e : q = k
    · subst e
      rw [Go.Maps.atKey_put_same h.map.isMap (keyed3.key (key3 _ hk)), if_pos rfl]
    · rw [Go.Maps.atKey_put_other (lit_ne e), if_neg e]
      exact h.at_ q hq
  · by_cases e : q = k
    · subst e
      simp only [if_pos]
      exact hr3
    · simp only [if_neg e]
      exact hold (h.row q)
  · by_cases e : q = k
    · have e' : q' ≠ k := fun e' => hqq (e.trans e'.symm)
      simp only [if_pos e, if_neg e']
      rcases vne (h.row q') with h1 | h1
      · cases hv1 : v1.ownBlock with
        | none => exact .inl rfl
        | some x => exact .inr (by rw [h1]; simp)
      · exact .inr (fun e2 => h1 e2.symm)
    · simp only [if_neg e]
      by_cases e' : q' = k
      · simp only [if_pos e']
        exact vne (h.row q)
      · simp only [if_neg e']
        exact h.apart q q' hqq
  · by_cases e : q = k
    · simp only [if_pos e]
      rcases vne h.arow with h1 | h1
      · cases hv1 : v1.ownBlock with
        | none => exact .inl rfl
        | some x => exact .inr (by rw [h1]; simp)
      · exact .inr (fun e2 => h1 e2.symm)
    · simp only [if_neg e]
      exact h.aapart q
  · by_cases e : q = k
    · simp only [if_pos e] at hp
      exact hF p (hfr p hp)
    · simp only [if_neg e] at hp
      exact h.Fm q p hp
  · by_cases e : q = k
    · simp only [if_pos e]
      exact hl
    · simp only [if_neg e]
      exact Nat.le_succ_of_le (h.lm q)
  · exact hg3.os.trans hW.os
  · exact hg3.tape.trans hW.tape
  · exact hg3.output.trans hW.output
  · exact Nat.le_trans hW.size hg3.size
  · intro p hp hn
    exact hblk p hp (fun e => hn (e ▸ h.Fb))

/-- The copy under way: the map in block b is ranged over by the iterator in r; the copy's struct is g2. -/
structure CInv (w : World) (N b r g2 : Nat) (D : DataW Value) (m : Int → List Dv) (mv : Int → Value) (all : List Dv) (c0 cnt : Nat) (left : Lit → Bool) (wr : World) : Prop where
  rg : wr.ranges Try.prog 3 rawR b r N D left cnt
  row : ∀ k, Row wr 0 (mv k) (m k)
  box : ∃ mo, Box wr w.heap.size g2 (N + (c0 - cnt)) (fun q => w.heap.size ≤ q ∧ q ≠ r) mo all
  le : cnt ≤ c0
  bel : Below w.heap.size w wr
  rle : w.heap.size ≤ r
  blt : b < w.heap.size
  mlt : ∀ k q, (mv k).ownBlock = some q → q < w.heap.size

theorem own_below {w W0 : World} {base g N : Nat} {F : Nat → Prop} {m : Int → List Dv} {all : List Dv} {b : Nat} {va : Value} {mv : Int → Value} {D : DataW Value} (h : Box' w base g N F m all b va mv D) (hW : Below w.heap.size w W0) : W0.ownsMap Try.prog 3 rawR b N D := by
  obtain ⟨es, clock, hb, r⟩ := h.map
  exact ⟨es, clock, (hW.block b (blk_lt hb)).trans hb, r⟩
theorem Box.grow {w : World} {base g N N' : Nat} {F : Nat → Prop} {m : Int → List Dv} {all : List Dv} (h : Box w base g N F m all) (hN : N ≤ N') : Box w base g N' F m all := by
  obtain ⟨b, va, mv, D, h⟩ := h
  exact ⟨b, va, mv, D, { h with map := h.map.mono hN, lm := fun k => Nat.le_trans (h.lm k) hN, la := Nat.le_trans h.la hN }⟩
set_option maxHeartbeats 4000000 in
theorem copy_calls {w : World} {base g N : Nat} {F : Nat → Prop} {m : Int → List Dv} {all : List Dv} (h : Box w base g N F m all) (hN : N ≤ 1048576) :
    Calls Try.prog 15 #[.pointer (some ⟨g, 0, none⟩)] w fun e w' => ∃ g2 mo, e = .returned (.pointer (some ⟨g2, 0, none⟩)) ∧ Box w' w.heap.size g2 (2 * N) (fun q => w.heap.size ≤ q) mo all ∧ Below w.heap.size w w' := by
  have hA : Box (w.alloc (.map #[] 0)) base g N F m all := h.below (below_alloc (Below.refl _ _) _)
  have hmm := @run_makeMap Try.prog
  obtain ⟨b, va, mv, D, h0⟩ := h
  have hml : ∀ k, (m k).length ≤ 1048576 := fun k => Nat.le_trans (h0.lm k) hN
  go_enter Try.func15, Try.ntmps15
  go_wp2_with (first | (go_at_call 11; (with_reducible refine (all_calls hA hN).mono ?_); rintro e w1 ⟨v1, rfl, hr1, hb1⟩; obtain ⟨A1, n1, rfl⟩ := hr1.slice; have hb1' : Below w.heap.size w w1 := below_step (below_alloc (Below.refl _ _) _) hb1; have hb2 : Below w.heap.size w (w1.alloc (.cells #[.map (some w.heap.size), .slice A1 all.length n1] 45)) := below_alloc hb1' _; have hB := h0.turn (S := fun _ => False) (Turn.of_below hb2) (fun _ _ h => h); have c0 := (blk_cell hB.blk 0).trans rfl) | (at_range; refine wpList_range_own _ rfl _ 43 rfl 3 30 keyed3 Try.underlying43 rawR b N D rfl hB.map ?_; intro w3 hrg3 hg3 hs3) | go_in)
  go_frame
  have hz : w.heap.size ≤ w1.heap.size := hb1'.size
  have hz1 : w.heap.size + 1 ≤ w1.heap.size := by have := hb1.size; simp at this; exact this
  have e1 : (w1.alloc (.cells #[.map (some w.heap.size), .slice A1 all.length n1] 45)).heap.size = w1.heap.size + 1 := by simp
  have hgn := heap_alloc_new w1 (.cells #[.map (some w.heap.size), .slice A1 all.length n1] 45 (0, 0))
  have hg3' : ∀ q, q < w1.heap.size + 1 → w3.heap[q]? = (w1.alloc (.cells #[.map (some w.heap.size), .slice A1 all.length n1] 45)).heap[q]? := fun q hq => hg3.block q (by rw [e1]; exact hq) (by simp)
  have hb3 : Below w.heap.size w w3 := below_step hb2 ⟨hg3.os, hg3.tape, hg3.output, hg3.size, fun q hq => hg3.block q hq (by simp)⟩
  have ho3 : ∀ q, q < w1.heap.size → w3.heap[q]? = w1.heap[q]? := fun q hq => (hg3' q (by omega)).trans ((below_alloc (Below.refl w1.heap.size w1) _).block q hq)
  have hI0 : CInv w N b (w1.heap.size + 1) w1.heap.size D m mv all (Maps.size D) (Maps.size D) (Maps.has D) w3 :=
    { rg := by rw [e1] at hrg3; exact hrg3
      row := fun k => ((h0.row k).below hb3).less (Nat.zero_le _)
      box := ⟨fun _ => [], w.heap.size, .slice A1 all.length n1, fun _ => nilS, .map [],
        { blk := (hg3' _ (by omega)).trans hgn
          map := by
            obtain ⟨es, clock, hb, r1, r2, r3⟩ := World.ownsMap_made w Try.prog 3 rawR
            exact ⟨es, clock, (ho3 _ (by omega)).trans ((hb1.block _ (by simp)).trans hb), r1, Nat.le_trans r2 (Nat.zero_le _), r3⟩
          at_ := fun k _ => rfl
          row := fun k => Row.nil _ _
          arow := (hr1.less (b := _) (base := w.heap.size) (by simp)).of_block (fun q hq => ho3 q (hr1.lt q hq).2)
          apart := fun _ _ _ => .inl rfl
          aapart := fun _ => .inl rfl
          hg := hz
          hb := Nat.le_refl _
          Fg := ⟨hz, by omega⟩
          Fb := ⟨Nat.le_refl _, by omega⟩
          Fm := fun k q hq => by cases hq
          Fa := fun q hq => ⟨by have := (hr1.lt q hq).1; simp at this; omega, by have := (hr1.lt q hq).2; omega⟩
          Fs := fun q hq => hq.1
          lm := fun _ => Nat.zero_le _
          la := by have := h0.la; omega }⟩
      le := Nat.le_refl _
      bel := hb3
      rle := by omega
      blt := h0.b_lt
      mlt := fun k q hq => ((h0.row k).lt q hq).2 }
  have hsD : Maps.size D ≤ N := size_le h0.map
  rw [e1]
  generalize w1.heap.size + 1 = r at hI0 ⊢
  generalize w1.heap.size = g2 at hI0 ⊢
  clear hrg3 hg3 hs3 hz hz1 e1 hgn hg3' hb3 ho3 hB c0 hb2 hb1' hb1 hr1 hA hmm
  go_loopw [4] (fun _ wr => ∃ left cnt, CInv w N b r g2 D m mv all (Maps.size D) cnt left wr) (fun _ wr => wr.rangeLeft b r)
  case atStart => exact ⟨_, _, hI0⟩
  case round =>
    clear hI0
    obtain ⟨left, cnt, hI⟩ := hrel
    go_wp2_with (first | (at_next; refine wpList_next_ranges _ rfl _ rfl 3 keyed3 rawR (Value.int .i64) (fun v => v) (fun key kl hkey => by obtain ⟨x, rfl, _⟩ := Maps.keyOf_int_inv Try.underlying3 hkey; exact ⟨x, rfl⟩) (fun v y hv => ⟨v, rfl⟩) b r N D left cnt rfl hI.rg ?_ ?_) | go_in)
    · intro hc0 hl0
      subst hc0
      go_wp2
      go_ret
      obtain ⟨mo, hbo⟩ := hI.box
      exact ⟨g2, mo, rfl, (hbo.grow (by omega)).wider (fun q hq => hq.1) (fun q hq => hq), hI.bel⟩
    · intro x v kl y y2 w4 cnt4 hkey hlk hR hat hrg4 hlt4 hg4 hs4 hen
      obtain ⟨x2, ex, rfl, hxw⟩ := Maps.keyOf_int_inv Try.underlying3 hkey
      cases ex
      have hv : v = mv x := by
        have h1 := hat (.held nilS)
        rw [h0.at_ x hxw] at h1
        simp only [rawR, Option.some.injEq, Prod.mk.injEq] at hR
        rw [← hR.1] at h1
        injection h1 with h1
        exact h1.symm
      subst hv
      clear hR hat hkey
      have hT4 : Turn (fun q => q = r) wr w4 := Turn.of_grown hg4 (fun q hq => by cases hq; rfl)
      obtain ⟨mo, bo, vao, mvo, Do, hBo⟩ := hI.box
      have hB4 := hBo.turn hT4 (fun q hq e => hq.2 e)
      have hrow4 : ∀ k, Row w4 0 (mv k) (m k) := fun k => (hI.row k).turn hT4 (fun q hq e => by have := hI.mlt k q hq; have := hI.rle; omega)
      have hbel4 : Below w.heap.size w w4 := hI.bel.trans (hT4.below hI.bel.size (fun q hq => by have := hI.rle; omega))
      have hS5 : ∀ W, Below w4.heap.size w4 W → W.cell? ⟨g2, 0, none⟩ = some (.map (some bo)) ∧ True := fun W hW => ⟨(blk_cell ((hW.block g2 (blk_lt hB4.blk)).trans hB4.blk) 0).trans rfl, trivial⟩
      have hle := hI.le
      have hrle := hI.rle
      have hblt := hI.blt
      have hmlt := hI.mlt
      have hwr4 := hbel4.size
      have hrl := hI.rg.left_eq
      have hrlt := hrg4.lt
      clear hI hBo hT4 hg4 hs4 hlk
      go_wp2
      refine start_ (n := 8) (S := fun w' => w'.cell? ⟨g2, 0, none⟩ = some (.map (some bo)) ∧ True) (ds := [7]) #[false, false, false, false, false, false, false, false] (by kernel_rfl) rfl rfl (hS5 _ (below_drew1 (Below.refl _ _))) (fun hHeld => ?_)
      have hW0 : Below w4.heap.size w4 w4.drew := below_drew1 (Below.refl _ _)
      generalize w4.drew = W0 at hW0 hHeld ⊢
      refine pure_ (i := 0) (N := some 21) (v := ?_) (a' := ?_) #[true, false, false, false, false, false, false, false] rfl rfl (by kernel_rfl) (fun _ _ _ h => h) (Or.inl ⟨by rfl, ?_⟩) ?_ ?_
      rotate_left
      · intro w'
        go_simp
        with_reducible rfl
      rotate_left
      · simp only [Act.put, List.setIfInBounds_toArray, List.set_cons_zero, List.set_cons_succ, i64_w, i32_w]
        rfl
      refine pure_ (i := 1) (N := some 22) (v := ?_) (a' := ?_) #[true, true, false, false, false, false, false, false] rfl rfl (by kernel_rfl) (fun _ _ _ h => h) (Or.inl ⟨by rfl, ?_⟩) ?_ ?_
      rotate_left
      · intro w'
        go_simp
        with_reducible rfl
      rotate_left
      · simp only [Act.put, List.setIfInBounds_toArray, List.set_cons_zero, List.set_cons_succ, i64_w, i32_w]
        rfl
      refine pure_ (i := 2) (N := some 23) (v := ?_) (a' := ?_) #[true, true, true, false, false, false, false, false] rfl rfl (by kernel_rfl) (fun _ _ _ h => h) (Or.inl ⟨by rfl, ?_⟩) ?_ ?_
      rotate_left
      · intro w'
        go_simp
        with_reducible rfl
      rotate_left
      · simp only [Act.put, List.setIfInBounds_toArray, List.set_cons_zero, List.set_cons_succ, i64_w, i32_w]
        rfl
      refine take_ (i := 3) (N := some 24) (v := ?_) (a' := ?_) #[true, true, true, true, false, false, false, false] rfl rfl (by kernel_rfl) (fun _ _ _ h => h) (Or.inl ⟨by rfl, ?_⟩) hHeld ?_ ?_
      rotate_left
      · rintro w' ⟨s0, s1⟩
        go_simp
        with_reducible rfl
      rotate_left
      · simp only [Act.put, List.setIfInBounds_toArray, List.set_cons_zero, List.set_cons_succ, i64_w, i32_w]
        rfl
      refine pure_ (i := 4) (N := some 25) (v := ?_) (a' := ?_) #[true, true, true, true, true, false, false, false] rfl rfl (by kernel_rfl) (fun _ _ _ h => h) (Or.inl ⟨by rfl, ?_⟩) ?_ ?_
      rotate_left
      · intro w'
        go_simp
        with_reducible rfl
      rotate_left
      · simp only [Act.put, List.setIfInBounds_toArray, List.set_cons_zero, List.set_cons_succ, i64_w, i32_w]
        rfl
      refine pure_ (i := 5) (N := some 26) (v := ?_) (a' := ?_) #[true, true, true, true, true, true, false, false] rfl rfl (by kernel_rfl) (fun _ _ _ h => h) (Or.inl ⟨by rfl, ?_⟩) ?_ ?_
      rotate_left
      · intro w'
        go_simp
        with_reducible rfl
      rotate_left
      · simp only [Act.put, List.setIfInBounds_toArray, List.set_cons_zero, List.set_cons_succ, i64_w, i32_w]
        rfl
      refine one_ (i := 6) (N := some 27) #[true, true, true, true, true, true, true, false] rfl rfl (by kernel_rfl) (by decide) (fun K hK => ?_)
      refine goes_ Try.func16 (by kernel_rfl) rfl #[mv x] (by rfl) rfl rfl (by (try simp only [List.map_toArray, List.map_cons, List.map_nil]); first | done | rfl) ?_
      refine (clone_calls ((hrow4 x).below hW0) (hml x)).mono ?_
      rintro e W1 ⟨v5, rfl, hr5, hb5⟩
      refine ⟨_, rfl, ?_⟩
      have hW1 := below_step hW0 hb5
      refine hK.out _ _ (hS5 _ hW1) (fun hHeld => ?_)
      clear hK K
      refine norm_ (a' := ?_) ?_ ?_
      rotate_left
      · show Act.put _ (some 27) _ = _
        simp only [Act.put, List.setIfInBounds_toArray, List.set_cons_zero, List.set_cons_succ, i64_w, i32_w]
        rfl
      obtain ⟨w6, hrun6, hmap6, hturn6⟩ := (own_below hB4 hW1).store keyed3 Try.underlying43 (by simp only [maxLen]; omega) (key3 x hxw) (val := v5) (d := .held v5) (ps := []) rfl
      refine last_ (i := 7) (N := none) #[true, true, true, true, true, true, true, true] rfl rfl (by kernel_rfl) (by decide) (fun K hK => ?_)
      refine skip_ (w1 := w6) (by rfl) rfl (by go_simp) ?_
      refine hK.out _ _ ?_
      clear hK K
      refine done_ (by kernel_rfl) ?_
      obtain ⟨hB6, hT6⟩ := hB4.set x hxw hW1 (hr5.less (by have := hW0.size; omega)) (fun q hq => by have := (hr5.lt q hq).1; have := hW0.size; omega) hmap6 hturn6 (fun q hq => ⟨by omega, by omega⟩) (by have := h0.lm x; omega)
      have hbo6 : bo ≠ b := by have := hB4.Fb.1; omega
      have hg6 : w4.grownBy w6 (some bo) := ⟨hturn6.grown.os.trans hW1.os, hturn6.grown.tape.trans hW1.tape, hturn6.grown.output.trans hW1.output, Nat.le_trans hW1.size hturn6.grown.size, fun q hq hne => (hturn6.grown.block q (Nat.lt_of_lt_of_le hq hW1.size) hne).trans (hW1.block q hq)⟩
      have hrg6 := hrg4.kept hg6 (fun e => hbo6 (by cases e; rfl)) (fun e => hB4.Fb.2 (by cases e; rfl))
      have hI6 : CInv w N b r g2 D m mv all (Maps.size D) cnt4 (fun z => left z && !z.sameKey (.int .i64 x)) w6 :=
        { rg := hrg6
          row := fun k => (hrow4 k).turn hT6 (fun q hq hF => by have := hmlt k q hq; omega)
          box := ⟨_, Box.grow (N := N + (Maps.size D - cnt) + 1) ⟨bo, vao, _, _, hB6⟩ (by omega)⟩
          le := by omega
          bel := hbel4.trans (hT6.below hwr4 (fun q hq => hq.1))
          rle := hrle
          blt := hblt
          mlt := hmlt }
      go_wp2
      go_roundw
      case rel => exact ⟨_, _, hI6⟩
      case measure => rw [hI6.rg.left_eq, hrl]; omega
end Go.Proofs.Ytallbobeehbkoaa.Boxes
