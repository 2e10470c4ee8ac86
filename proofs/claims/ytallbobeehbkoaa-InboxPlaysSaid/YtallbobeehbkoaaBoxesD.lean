import Derived.Test.YtallbobeehbkoaaBoxesC
namespace Go.Proofs.Ytallbobeehbkoaa.Boxes
open Go.RowKit Go.Proofs.YtallbobeehbkoaaW.PrintWords Go.Proofs.YtallbobeehbkoaaW.PrintLast

def putTo (m : Int → List Dv) (ds : List Dv) : Int → List Dv := fun q => m q ++ ds.filter (fun d => d.c == q)
theorem Row.at_ {w : World} {base g n c : Nat} {ds : List Dv} (h : Row w base (.slice (some ⟨g, 0, none⟩) n c) ds) {i : Nat} {d : Dv} (hd : ds[i]? = some d) :
    w.cell? ⟨g, i * 4, none⟩ = some (.int .i64 d.c) ∧ w.cell? ⟨g, i * 4 + 1, none⟩ = some (.int .i64 d.p) ∧ w.cell? ⟨g, i * 4 + 2, none⟩ = some (.int .i64 d.s) ∧ w.cell? ⟨g, i * 4 + 3, none⟩ = some (.slice d.A d.n d.k) := by
  have hc := Row.cells h
  have e : ∀ j, (⟨g, 0, none⟩ : Addr).add j = ⟨g, j, none⟩ := add_plain g
  have h0 := hc _ _ (flat_at ds i d hd 0 _ rfl)
  have h1 := hc _ _ (flat_at ds i d hd 1 _ rfl)
  have h2 := hc _ _ (flat_at ds i d hd 2 _ rfl)
  have h3 := hc _ _ (flat_at ds i d hd 3 _ rfl)
  rw [e] at h0 h1 h2 h3
  exact ⟨h0, h1, h2, h3⟩


theorem Box'.row_ne_b {w : World} {base g N : Nat} {F : Nat → Prop} {m : Int → List Dv} {all : List Dv} {b : Nat} {va : Value} {mv : Int → Value} {D : DataW Value}
    (h : Box' w base g N F m all b va mv D) {base' : Nat} {v : Value} {ds : List Dv} (hr : Row w base' v ds) : ∀ q, v.ownBlock = some q → q ≠ b := by
  intro q hq e
  obtain ⟨cs, hcs⟩ := hr.typed q hq
  obtain ⟨es, clock, hb, _⟩ := h.map
  rw [e, hb] at hcs
  cases hcs
theorem Box'.row_ne_g {w : World} {base g N : Nat} {F : Nat → Prop} {m : Int → List Dv} {all : List Dv} {b : Nat} {va : Value} {mv : Int → Value} {D : DataW Value}
    (h : Box' w base g N F m all b va mv D) {base' : Nat} {v : Value} {ds : List Dv} (hr : Row w base' v ds) : ∀ q, v.ownBlock = some q → q ≠ g := by
  intro q hq e
  obtain ⟨cs, hcs⟩ := hr.typed q hq
  rw [e, h.blk] at hcs
  cases hcs
theorem Box'.g_ne_b {w : World} {base g N : Nat} {F : Nat → Prop} {m : Int → List Dv} {all : List Dv} {b : Nat} {va : Value} {mv : Int → Value} {D : DataW Value}
    (h : Box' w base g N F m all b va mv D) : g ≠ b := by
  intro e
  obtain ⟨es, clock, hb, _⟩ := h.map
  have := h.blk
  rw [e, hb] at this
  cases this
theorem Box'.b_lt {w : World} {base g N : Nat} {F : Nat → Prop} {m : Int → List Dv} {all : List Dv} {b : Nat} {va : Value} {mv : Int → Value} {D : DataW Value}
    (h : Box' w base g N F m all b va mv D) : b < w.heap.size := h.map.lt

theorem Box'.put {w W w2 w3 : World} {base g N : Nat} {F : Nat → Prop} {m : Int → List Dv} {all : List Dv} {b : Nat} {va : Value} {mv : Int → Value} {D : DataW Value}
    (h : Box' w base g N F m all b va mv D) (d : Dv) (hd : wf d.c) {v1 : Value} (hW : Below w.heap.size w W) (hg : W.grownBy w2 (mv d.c).ownBlock) (hr : Row w2 base v1 (m d.c ++ [d]))
    (hat : v1.ownBlock = (mv d.c).ownBlock ∨ ∃ q, v1.ownBlock = some q ∧ W.heap.size ≤ q)
    (hm : w3.ownsMap Try.prog 3 rawR b (N + 1) (D.put (.int .i64 d.c) (.held v1))) (ht : w2.mapTurned w3 b) (hF : ∀ q, w.heap.size ≤ q → F q) :
    Box' w3 base g (N + 1) F (fun q => if q = d.c then m q ++ [d] else m q) all b va (fun q => if q = d.c then v1 else mv q) (D.put (.int .i64 d.c) (.held v1)) ∧ Turn F w w3 := by
  have hg3 := ht.grown
  have hblk : ∀ p, p < w.heap.size → some p ≠ (mv d.c).ownBlock → p ≠ b → w3.heap[p]? = w.heap[p]? := fun p h1 h2 h3 =>
    (hg3.block p (Nat.lt_of_lt_of_le (Nat.lt_of_lt_of_le h1 hW.size) hg.size) (fun e => h3 (by cases e; rfl))).trans ((hg.block p (Nat.lt_of_lt_of_le h1 hW.size) h2).trans (hW.block p h1))
  have hr3 : Row w3 base v1 (m d.c ++ [d]) := hr.of_block fun q hq => by
    refine hg3.block q (hr.lt q hq).2 (fun e => ?_)
    cases e
    obtain ⟨cs, hcs⟩ := hr.typed b hq
    obtain ⟨es, clock, es', clock', hb2, _⟩ := ht
    rw [hb2] at hcs
    cases hcs
  have hold : ∀ {v : Value} {ds : List Dv}, Row w base v ds → (v.ownBlock = none ∨ v.ownBlock ≠ (mv d.c).ownBlock) → Row w3 base v ds := fun {v ds} hv hne => hv.of_block fun q hq => by
    refine hblk q (hv.lt q hq).2 (fun e => ?_) (h.row_ne_b hv q hq)
    rcases hne with hne | hne
    · rw [hne] at hq; cases hq
    · exact hne (hq.trans e)
  have vFq : ∀ q, v1.ownBlock = some q → F q := fun q hq => by
    rcases hat with hat | ⟨p, hp, hle⟩
    · exact h.Fm d.c q (hat ▸ hq)
    · rw [hq] at hp
      cases hp
      exact hF q (Nat.le_trans hW.size hle)
  have vne : ∀ {v : Value} {ds : List Dv}, Row w base v ds → (v.ownBlock = none ∨ v.ownBlock ≠ (mv d.c).ownBlock) → (v.ownBlock = none ∨ v.ownBlock ≠ v1.ownBlock) := fun {v ds} hv hne => by
    rcases hne with hne | hne
    · exact .inl hne
    · rcases hat with hat | ⟨p, hp, hle⟩
      · rw [hat]; exact .inr hne
      · cases hvb : v.ownBlock with
        | none => exact .inl rfl
        | some x =>
          refine .inr (fun e => ?_)
          rw [hp] at e
          cases e
          have := (hv.lt _ hvb).2
          have := hW.size
          omega
  refine ⟨{ blk := (hblk g (blk_lt h.blk) (fun e => h.row_ne_g (h.row d.c) g e.symm rfl) h.g_ne_b).trans h.blk
            map := hm
            at_ := fun q hq => ?_
            row := fun q => ?_
            arow := hold h.arow ?_
            apart := fun q q' hqq => ?_
            aapart := fun q => ?_
            hg := h.hg
            hb := h.hb
            Fg := h.Fg
            Fb := h.Fb
            Fm := fun q p hp => ?_
            Fa := h.Fa
            Fs := h.Fs
            lm := fun q => ?_
            la := Nat.le_succ_of_le h.la }, ⟨?_, ?_, ?_, ?_, ?_⟩⟩
  · by_cases e : q = d.c
    · subst e
      rw [Go.Maps.atKey_put_same h.map.isMap (keyed3.key (key3 _ hd)), if_pos rfl]
    · rw [Go.Maps.atKey_put_other (lit_ne e), if_neg e]
      exact h.at_ q hq
  · by_cases e : q = d.c
    · subst e
      simp only [if_pos]
      exact hr3
    · simp only [if_neg e]
      exact hold (h.row q) (h.apart q d.c e)
  · rcases h.aapart d.c with h1 | h1
    · cases hva : va.ownBlock with
      | none => exact .inl rfl
      | some x => exact .inr (by rw [h1]; simp)
    · exact .inr (fun e => h1 e.symm)
  · by_cases e : q = d.c
    · have e' : q' ≠ d.c := fun e' => hqq (e.trans e'.symm)
      simp only [if_pos e, if_neg e']
      rcases vne (h.row q') (h.apart q' d.c e') with h1 | h1
      · cases hv1 : v1.ownBlock with
        | none => exact .inl rfl
        | some x => exact .inr (by rw [h1]; simp)
      · exact .inr (fun e2 => h1 e2.symm)
    · simp only [if_neg e]
      by_cases e' : q' = d.c
      · simp only [if_pos e']
        exact vne (h.row q) (h.apart q d.c e)
      · simp only [if_neg e']
        exact h.apart q q' hqq
  · by_cases e : q = d.c
    · simp only [if_pos e]
      have h1 : va.ownBlock = none ∨ va.ownBlock ≠ (mv d.c).ownBlock := by
        rcases h.aapart d.c with h1 | h1
        · cases hva : va.ownBlock with
          | none => exact .inl rfl
          | some x => exact .inr (by rw [h1]; simp)
        · exact .inr (fun e => h1 e.symm)
      rcases vne h.arow h1 with h1 | h1
      · cases hv1 : v1.ownBlock with
        | none => exact .inl rfl
        | some x => exact .inr (by rw [h1]; simp)
      · exact .inr (fun e2 => h1 e2.symm)
    · simp only [if_neg e]
      exact h.aapart q
  · by_cases e : q = d.c
    · simp only [if_pos e] at hp
      exact vFq p hp
    · simp only [if_neg e] at hp
      exact h.Fm q p hp
  · by_cases e : q = d.c
    · simp only [if_pos e, List.length_append, List.length_singleton]
      exact Nat.succ_le_succ (h.lm q)
    · simp only [if_neg e]
      exact Nat.le_succ_of_le (h.lm q)
  · exact hg3.os.trans (hg.os.trans hW.os)
  · exact hg3.tape.trans (hg.tape.trans hW.tape)
  · exact hg3.output.trans (hg.output.trans hW.output)
  · exact Nat.le_trans hW.size (Nat.le_trans hg.size hg3.size)
  · intro p hp hn
    exact hblk p hp (fun e => hn (h.Fm d.c p e.symm)) (fun e => hn (e ▸ h.Fb))

theorem Box'.tell {w W w2 : World} {base g N : Nat} {F : Nat → Prop} {m : Int → List Dv} {all : List Dv} {b : Nat} {va : Value} {mv : Int → Value} {D : DataW Value}
    (h : Box' w base g N F m all b va mv D) (d : Dv) {v1 : Value} (hW : Below w.heap.size w W) (hg : W.grownBy w2 va.ownBlock) (hr : Row w2 base v1 (all ++ [d]))
    (hat : v1.ownBlock = va.ownBlock ∨ ∃ q, v1.ownBlock = some q ∧ W.heap.size ≤ q) (hF : ∀ q, w.heap.size ≤ q → F q) (hl : all.length + 1 ≤ N) :
    Box' (w2.setCell ⟨g, 1, none⟩ v1) base g N F m (all ++ [d]) b v1 mv D ∧ Turn F w (w2.setCell ⟨g, 1, none⟩ v1) := by
  have hblk2 : ∀ p, p < w.heap.size → some p ≠ va.ownBlock → w2.heap[p]? = w.heap[p]? := fun p h1 h2 =>
    (hg.block p (Nat.lt_of_lt_of_le h1 hW.size) h2).trans (hW.block p h1)
  have hblk : ∀ p, p < w.heap.size → some p ≠ va.ownBlock → p ≠ g → (w2.setCell ⟨g, 1, none⟩ v1).heap[p]? = w.heap[p]? := fun p h1 h2 h3 =>
    (Below.heap_setCell w2 ⟨g, 1, none⟩ v1 p h3).trans (hblk2 p h1 h2)
  have hgb2 : w2.heap[g]? = some (.cells #[.map (some b), va] 45 (0, 0)) := (hblk2 g (blk_lt h.blk) (fun e => h.row_ne_g h.arow g e.symm rfl)).trans h.blk
  have hr3 : Row (w2.setCell ⟨g, 1, none⟩ v1) base v1 (all ++ [d]) := hr.of_block fun q hq => by
    refine Below.heap_setCell w2 ⟨g, 1, none⟩ v1 q (fun e => ?_)
    obtain ⟨cs, hcs⟩ := hr.typed q hq
    have e' : q = g := e
    rw [e', hgb2] at hcs
    cases hcs
  have hold : ∀ k, Row (w2.setCell ⟨g, 1, none⟩ v1) base (mv k) (m k) := fun k => (h.row k).of_block fun q hq => by
    refine hblk q ((h.row k).lt q hq).2 (fun e => ?_) (h.row_ne_g (h.row k) q hq)
    rcases h.aapart k with h1 | h1
    · rw [h1] at hq; cases hq
    · exact h1 (hq.trans e)
  have hb0 : Below 0 w2 (w2.setCell ⟨g, 1, none⟩ v1) := (Below.refl 0 w2).setCell (Nat.zero_le _) v1
  have vne : ∀ k, (mv k).ownBlock = none ∨ (mv k).ownBlock ≠ v1.ownBlock := fun k => by
    rcases h.aapart k with hne | hne
    · exact .inl hne
    · rcases hat with hat | ⟨p, hp, hle⟩
      · rw [hat]; exact .inr hne
      · cases hvb : (mv k).ownBlock with
        | none => exact .inl rfl
        | some x =>
          refine .inr (fun e => ?_)
          rw [hp] at e
          cases e
          have := ((h.row k).lt _ hvb).2
          have := hW.size
          omega
  refine ⟨{ blk := ?_
            map := ?_
            at_ := h.at_
            row := hold
            arow := hr3
            apart := h.apart
            aapart := vne
            hg := h.hg
            hb := h.hb
            Fg := h.Fg
            Fb := h.Fb
            Fm := h.Fm
            Fa := fun q hq => ?_
            Fs := h.Fs
            lm := h.lm
            la := by rw [List.length_append, List.length_singleton]; exact hl }, ⟨?_, ?_, ?_, ?_, ?_⟩⟩
  · have := blk_set hgb2 1 v1
    simpa using this
  · obtain ⟨es, clock, hb, r⟩ := h.map
    exact ⟨es, clock, (hblk b (blk_lt hb) (fun e => h.row_ne_b h.arow b e.symm rfl) (fun e => h.g_ne_b e.symm)).trans hb, r⟩
  · rcases hat with hat | ⟨p, hp, hle⟩
    · exact h.Fa q (hat ▸ hq)
    · rw [hq] at hp
      cases hp
      exact hF q (Nat.le_trans hW.size hle)
  · exact hb0.os.trans (hg.os.trans hW.os)
  · exact hb0.tape.trans (hg.tape.trans hW.tape)
  · exact hb0.output.trans (hg.output.trans hW.output)
  · exact Nat.le_trans hW.size (Nat.le_trans hg.size hb0.size)
  · intro p hp hn
    exact hblk p hp (fun e => hn (h.Fa p e.symm)) (fun e => hn (e ▸ h.Fg))

/-! ### what the two regions hold on to -/
section
variable {w W0 w2 : World} {base g N : Nat} {F : Nat → Prop} {m : Int → List Dv} {all : List Dv} {b : Nat} {va : Value} {mv : Int → Value} {D : DataW Value} {d : Dv} {dd : Nat}
theorem row_of_own {w : World} {base : Nat} {v : Value} {xs : List Dv} {d : Dv} (h : w.ownsRow base 29 4 v (xs.length + 1) (flat xs ++ [.int .i64 d.c, .int .i64 d.p, .int .i64 d.s, .slice d.A d.n d.k])) : Row w base v (xs ++ [d]) := by
  unfold Row
  rw [flat_append, flat_one, List.length_append, List.length_singleton]
  exact h
theorem own_after (h : Box' w base g N F m all b va mv D) (hW : Below w.heap.size w W0) {k : Int} (hg : W0.grownBy w2 (mv k).ownBlock) : w2.ownsMap Try.prog 3 rawR b N D := by
  obtain ⟨es, clock, hb, r⟩ := h.map
  have hlt := blk_lt hb
  exact ⟨es, clock, (hg.block b (Nat.lt_of_lt_of_le hlt hW.size) (fun e => h.row_ne_b (h.row k) b e.symm rfl)).trans ((hW.block b hlt).trans hb), r⟩
theorem S3 (h : Box' w base g N F m all b va mv D) (hwfd : wf d.c) (hW : Below w.heap.size w W0) (hd : W0.heap[dd]? = some (.cells #[.int .i64 d.c, .int .i64 d.p, .int .i64 d.s, .slice d.A d.n d.k] 29 (0, 0))) :
    W0.cell? ⟨g, 0, none⟩ = some (.map (some b)) ∧ W0.cell? ⟨dd, 0, none⟩ = some (.int .i64 d.c) ∧ W0.cell? ⟨dd, 1, none⟩ = some (.int .i64 d.p) ∧ W0.cell? ⟨dd, 2, none⟩ = some (.int .i64 d.s) ∧ W0.cell? ⟨dd, 3, none⟩ = some (.slice d.A d.n d.k) ∧
    (Instr.lookup 43 (.map (some b)) (.int .i64 d.c) false).run Try.prog W0 = .ok (mv d.c) W0 := by
  have hh := h.turn (S := fun _ => False) (Turn.of_below hW) (fun _ _ h => h)
  exact ⟨(blk_cell hh.blk 0).trans rfl, (blk_cell hd 0).trans rfl, (blk_cell hd 1).trans rfl, (blk_cell hd 2).trans rfl, (blk_cell hd 3).trans rfl, run_look hh.map hwfd (hh.at_ d.c hwfd)⟩
theorem S3' (h : Box' w base g N F m all b va mv D) (hwfd : wf d.c) (hW : Below w.heap.size w W0) (hd : W0.heap[dd]? = some (.cells #[.int .i64 d.c, .int .i64 d.p, .int .i64 d.s, .slice d.A d.n d.k] 29 (0, 0))) (hdd : w.heap.size ≤ dd) (hg : W0.grownBy w2 (mv d.c).ownBlock) :
    w2.cell? ⟨g, 0, none⟩ = some (.map (some b)) ∧ w2.cell? ⟨dd, 0, none⟩ = some (.int .i64 d.c) ∧ w2.cell? ⟨dd, 1, none⟩ = some (.int .i64 d.p) ∧ w2.cell? ⟨dd, 2, none⟩ = some (.int .i64 d.s) ∧ w2.cell? ⟨dd, 3, none⟩ = some (.slice d.A d.n d.k) ∧
    (Instr.lookup 43 (.map (some b)) (.int .i64 d.c) false).run Try.prog w2 = .ok (mv d.c) w2 := by
  have hh := h.turn (S := fun _ => False) (Turn.of_below hW) (fun _ _ h => h)
  have hg2 : w2.heap[g]? = some (.cells #[.map (some b), va] 45 (0, 0)) := (hg.block g (blk_lt hh.blk) (fun e => h.row_ne_g (h.row d.c) g e.symm rfl)).trans hh.blk
  have hd2 := (hg.block dd (blk_lt hd) (fun e => by have := ((h.row d.c).lt dd e.symm).2; omega)).trans hd
  exact ⟨(blk_cell hg2 0).trans rfl, (blk_cell hd2 0).trans rfl, (blk_cell hd2 1).trans rfl, (blk_cell hd2 2).trans rfl, (blk_cell hd2 3).trans rfl, run_look (own_after h hW hg) hwfd (h.at_ d.c hwfd)⟩
theorem S4 (h : Box' w base g N F m all b va mv D) (hW : Below w.heap.size w W0) (hd : W0.heap[dd]? = some (.cells #[.int .i64 d.c, .int .i64 d.p, .int .i64 d.s, .slice d.A d.n d.k] 29 (0, 0))) :
    W0.cell? ⟨g, 1, none⟩ = some va ∧ W0.cell? ⟨dd, 0, none⟩ = some (.int .i64 d.c) ∧ W0.cell? ⟨dd, 1, none⟩ = some (.int .i64 d.p) ∧ W0.cell? ⟨dd, 2, none⟩ = some (.int .i64 d.s) ∧ W0.cell? ⟨dd, 3, none⟩ = some (.slice d.A d.n d.k) ∧ W0.frozen? ⟨g, 1, none⟩ = false := by
  have hh := h.turn (S := fun _ => False) (Turn.of_below hW) (fun _ _ h => h)
  exact ⟨(blk_cell hh.blk 1).trans rfl, (blk_cell hd 0).trans rfl, (blk_cell hd 1).trans rfl, (blk_cell hd 2).trans rfl, (blk_cell hd 3).trans rfl, blk_frozen hh.blk 1⟩
theorem S4' (h : Box' w base g N F m all b va mv D) (hW : Below w.heap.size w W0) (hd : W0.heap[dd]? = some (.cells #[.int .i64 d.c, .int .i64 d.p, .int .i64 d.s, .slice d.A d.n d.k] 29 (0, 0))) (hne : some dd ≠ va.ownBlock) (hg : W0.grownBy w2 va.ownBlock) :
    w2.cell? ⟨g, 1, none⟩ = some va ∧ w2.cell? ⟨dd, 0, none⟩ = some (.int .i64 d.c) ∧ w2.cell? ⟨dd, 1, none⟩ = some (.int .i64 d.p) ∧ w2.cell? ⟨dd, 2, none⟩ = some (.int .i64 d.s) ∧ w2.cell? ⟨dd, 3, none⟩ = some (.slice d.A d.n d.k) ∧ w2.frozen? ⟨g, 1, none⟩ = false := by
  have hh := h.turn (S := fun _ => False) (Turn.of_below hW) (fun _ _ h => h)
  have hg2 : w2.heap[g]? = some (.cells #[.map (some b), va] 45 (0, 0)) := (hg.block g (blk_lt hh.blk) (fun e => h.row_ne_g h.arow g e.symm rfl)).trans hh.blk
  have hd2 := (hg.block dd (blk_lt hd) hne).trans hd
  exact ⟨(blk_cell hg2 1).trans rfl, (blk_cell hd2 0).trans rfl, (blk_cell hd2 1).trans rfl, (blk_cell hd2 2).trans rfl, (blk_cell hd2 3).trans rfl, blk_frozen hg2 1⟩
end

theorem put_step (m : Int → List Dv) (xs : List Dv) (d : Dv) : putTo m (xs ++ [d]) = fun q => if q = d.c then putTo m xs q ++ [d] else putTo m xs q := by
  funext q
  simp only [putTo, List.filter_append]
  by_cases e : q = d.c
  · rw [if_pos e, List.append_assoc]
    congr 1
    congr 1
    simp [e]
  · rw [if_neg e]
    have : (d.c == q) = false := by simpa using fun e2 : d.c = q => e e2.symm
    simp [this]

set_option linter.unusedVariables false
set_option linter.unusedSimpArgs false
set_option maxHeartbeats 4000000 in
theorem put_calls {w : World} {base bv g N : Nat} {F : Nat → Prop} {m : Int → List Dv} {all ds : List Dv} {v : Value} (h : Box w base g N F m all) (hv : Row w bv v ds) (hne : ∀ q, v.ownBlock = some q → ¬ F q) (hwf : ∀ d ∈ ds, wf d.c)
    (hN : N + ds.length ≤ 1048576) :
    Calls Try.prog 8 #[.pointer (some ⟨g, 0, none⟩), v] w fun e w' => e = .returned (.tuple #[]) ∧ Box w' base g (N + ds.length) (fun q => F q ∨ w.heap.size ≤ q) (putTo m ds) (all ++ ds) ∧ Turn F w w' := by
  obtain ⟨A, c, rfl⟩ := hv.slice
  go_enter Try.func8, Try.ntmps8
  go_wp2
  go_loopw [8] (fun i wr => ∃ k : Nat, k ≤ ds.length ∧ i = .int .i64 k ∧ Box wr base g (N + k) (fun q => F q ∨ w.heap.size ≤ q) (putTo m (ds.take k)) (all ++ ds.take k) ∧ Turn F w wr) (fun i _ => ds.length - (intOf i).toNat)
  case atStart =>
    refine ⟨0, Nat.zero_le _, rfl, ?_, Turn.refl _ _⟩
    obtain ⟨b, va, mv, D, h⟩ := h
    have e1 : putTo m (ds.take 0) = m := by funext q; simp [putTo]
    rw [e1, List.take_zero, List.append_nil]
    exact ⟨b, va, mv, D, { h with
      Fg := .inl h.Fg
      Fb := .inl h.Fb
      Fm := fun k q hq => .inl (h.Fm k q hq)
      Fa := fun q hq => .inl (h.Fa q hq)
      Fs := fun q hq => hq.elim (h.Fs q) (fun h2 => Nat.le_trans (Nat.le_of_lt (Nat.lt_of_le_of_lt h.hg (blk_lt h.blk))) h2) }⟩
  case round =>
    obtain ⟨k, hk, rfl, hbox, hturn⟩ := hrel
    by_cases hlt : k < ds.length
    · obtain ⟨gv, rfl⟩ : ∃ gv, A = some ⟨gv, 0, none⟩ := by
        rcases hv.2 with ⟨e, h0⟩ | ⟨gv, cap, cur, e, _⟩
        · omega
        · cases e
          exact ⟨gv, rfl⟩
      obtain ⟨d, hd⟩ : ∃ d, ds[k]? = some d := ⟨_, List.getElem?_eq_getElem hlt⟩
      have hwfd : wf d.c := hwf d (List.mem_of_getElem? hd)
      have hvr := hv.turn hturn hne
      obtain ⟨c0, c1, c2, c3⟩ := hvr.at_ hd
      obtain ⟨b, va, mv, D, hB⟩ := hbox
      have hF : ∀ q, wr.heap.size ≤ q → (F q ∨ w.heap.size ≤ q) := fun q hq => .inr (Nat.le_trans hturn.size hq)
      have hbs : base ≤ wr.heap.size := Nat.le_of_lt (Nat.lt_of_le_of_lt hB.hg (blk_lt hB.blk))
      have hlm := hB.lm d.c
      have hla := hB.la
      have hnum : (Int.toNat (k : Int)) = k := Int.toNat_natCast k
      go_wp2
      have hnew := heap_alloc_new wr (.cells #[.int .i64 d.c, .int .i64 d.p, .int .i64 d.s, .slice d.A d.n d.k] 29 (0, 0))
      have hW0' : Below wr.heap.size wr (wr.alloc (.cells #[.int .i64 d.c, .int .i64 d.p, .int .i64 d.s, .slice d.A d.n d.k] 29)).drew := below_drew1 (below_alloc (Below.refl _ _) _)
      generalize hdd : wr.heap.size = dd at hnew ⊢
      have hd0' : (wr.alloc (.cells #[.int .i64 d.c, .int .i64 d.p, .int .i64 d.s, .slice d.A d.n d.k] 29)).drew.heap[dd]? = some (.cells #[.int .i64 d.c, .int .i64 d.p, .int .i64 d.s, .slice d.A d.n d.k] 29 (0, 0)) := hnew
      have hss : wr.heap.size + 1 = (wr.alloc (.cells #[.int .i64 d.c, .int .i64 d.p, .int .i64 d.s, .slice d.A d.n d.k] 29)).drew.heap.size := by simp
      generalize hWc : wr.alloc (.cells #[.int .i64 d.c, .int .i64 d.p, .int .i64 d.s, .slice d.A d.n d.k] 29) = Wc at hW0' hd0' hss ⊢
      have hW0 := hW0'
      have hd0 := hd0'
      refine start_ (n := 17) (S := fun w' => w'.cell? ⟨g, 0, none⟩ = some (.map (some b)) ∧ w'.cell? ⟨dd, 0, none⟩ = some (.int .i64 d.c) ∧ w'.cell? ⟨dd, 1, none⟩ = some (.int .i64 d.p) ∧ w'.cell? ⟨dd, 2, none⟩ = some (.int .i64 d.s) ∧ w'.cell? ⟨dd, 3, none⟩ = some (.slice d.A d.n d.k) ∧ (Instr.lookup 43 (.map (some b)) (.int .i64 d.c) false).run Try.prog w' = .ok (mv d.c) w') (ds := [16]) #[false, false, false, false, false, false, false, false, false, false, false, false, false, false, false, false, false] (by kernel_rfl) rfl rfl (S3 hB hwfd hW0 hd0) (fun hHeld => ?_)
      generalize Wc.drew = W0 at hW0 hd0 hss hHeld ⊢
      have row0 := ((hB.row d.c).below hW0 : W0.ownsRow base 29 4 (mv d.c) _ _)
      have hbW := Below.refl base W0
      refine pure_ (i := 0) (N := some 12) (v := ?_) (a' := ?_) #[true, false, false, false, false, false, false, false, false, false, false, false, false, false, false, false, false] rfl rfl (by kernel_rfl) (fun _ _ _ h => h) (Or.inl ⟨by rfl, ?_⟩) ?_ ?_
      rotate_left
      · intro w'
        go_simp
        with_reducible rfl
      rotate_left
      · simp only [Act.put, List.setIfInBounds_toArray, List.set_cons_zero, List.set_cons_succ, i64_w, i32_w]
        rfl
      refine pure_ (i := 1) (N := some 13) (v := ?_) (a' := ?_) #[true, true, false, false, false, false, false, false, false, false, false, false, false, false, false, false, false] rfl rfl (by kernel_rfl) (fun _ _ _ h => h) (Or.inl ⟨by rfl, ?_⟩) ?_ ?_
      rotate_left
      · intro w'
        go_simp
        with_reducible rfl
      rotate_left
      · simp only [Act.put, List.setIfInBounds_toArray, List.set_cons_zero, List.set_cons_succ, i64_w, i32_w]
        rfl
      refine pure_ (i := 2) (N := some 14) (v := ?_) (a' := ?_) #[true, true, true, false, false, false, false, false, false, false, false, false, false, false, false, false, false] rfl rfl (by kernel_rfl) (fun _ _ _ h => h) (Or.inl ⟨by rfl, ?_⟩) ?_ ?_
      rotate_left
      · intro w'
        go_simp
        with_reducible rfl
      rotate_left
      · simp only [Act.put, List.setIfInBounds_toArray, List.set_cons_zero, List.set_cons_succ, i64_w, i32_w]
        rfl
      refine take_ (i := 3) (N := some 15) (v := ?_) (a' := ?_) #[true, true, true, true, false, false, false, false, false, false, false, false, false, false, false, false, false] rfl rfl (by kernel_rfl) (fun _ _ _ h => h) (Or.inl ⟨by rfl, ?_⟩) hHeld ?_ ?_
      rotate_left
      · rintro w' ⟨s0, s1, s2, s3, s4, s5⟩
        go_simp
        with_reducible rfl
      rotate_left
      · simp only [Act.put, List.setIfInBounds_toArray, List.set_cons_zero, List.set_cons_succ, i64_w, i32_w]
        rfl
      refine pure_ (i := 4) (N := some 16) (v := ?_) (a' := ?_) #[true, true, true, true, true, false, false, false, false, false, false, false, false, false, false, false, false] rfl rfl (by kernel_rfl) (fun _ _ _ h => h) (Or.inl ⟨by rfl, ?_⟩) ?_ ?_
      rotate_left
      · intro w'
        go_simp
        with_reducible rfl
      rotate_left
      · simp only [Act.put, List.setIfInBounds_toArray, List.set_cons_zero, List.set_cons_succ, i64_w, i32_w]
        rfl
      refine take_ (i := 5) (N := some 17) (v := ?_) (a' := ?_) #[true, true, true, true, true, true, false, false, false, false, false, false, false, false, false, false, false] rfl rfl (by kernel_rfl) (fun _ _ _ h => h) (Or.inl ⟨by rfl, ?_⟩) hHeld ?_ ?_
      rotate_left
      · rintro w' ⟨s0, s1, s2, s3, s4, s5⟩
        go_simp
        with_reducible rfl
      rotate_left
      · simp only [Act.put, List.setIfInBounds_toArray, List.set_cons_zero, List.set_cons_succ, i64_w, i32_w]
        rfl
      refine pure_ (i := 6) (N := some 18) (v := ?_) (a' := ?_) #[true, true, true, true, true, true, true, false, false, false, false, false, false, false, false, false, false] rfl rfl (by kernel_rfl) (fun _ _ _ h => h) (Or.inl ⟨by rfl, ?_⟩) ?_ ?_
      rotate_left
      · intro w'
        go_simp
        with_reducible rfl
      rotate_left
      · simp only [Act.put, List.setIfInBounds_toArray, List.set_cons_zero, List.set_cons_succ, i64_w, i32_w]
        rfl
      refine pure_ (i := 7) (N := some 19) (v := ?_) (a' := ?_) #[true, true, true, true, true, true, true, true, false, false, false, false, false, false, false, false, false] rfl rfl (by kernel_rfl) (fun _ _ _ h => h) (Or.inl ⟨by rfl, ?_⟩) ?_ ?_
      rotate_left
      · intro w'
        go_simp
        with_reducible rfl
      rotate_left
      · simp only [Act.put, List.setIfInBounds_toArray, List.set_cons_zero, List.set_cons_succ, i64_w, i32_w]
        rfl
      refine pure_ (i := 8) (N := some 20) (v := ?_) (a' := ?_) #[true, true, true, true, true, true, true, true, true, false, false, false, false, false, false, false, false] rfl rfl (by kernel_rfl) (fun _ _ _ h => h) (Or.inl ⟨by rfl, ?_⟩) ?_ ?_
      rotate_left
      · intro w'
        go_simp
        with_reducible rfl
      rotate_left
      · simp only [Act.put, List.setIfInBounds_toArray, List.set_cons_zero, List.set_cons_succ, i64_w, i32_w]
        rfl
      refine take_ (i := 9) (N := some 21) (v := ?_) (a' := ?_) #[true, true, true, true, true, true, true, true, true, true, false, false, false, false, false, false, false] rfl rfl (by kernel_rfl) (fun _ _ _ h => h) (Or.inl ⟨by rfl, ?_⟩) hHeld ?_ ?_
      rotate_left
      · rintro w' ⟨s0, s1, s2, s3, s4, s5⟩
        go_simp
        with_reducible rfl
      rotate_left
      · simp only [Act.put, List.setIfInBounds_toArray, List.set_cons_zero, List.set_cons_succ, i64_w, i32_w]
        rfl
      refine pure_ (i := 10) (N := some 22) (v := ?_) (a' := ?_) #[true, true, true, true, true, true, true, true, true, true, true, false, false, false, false, false, false] rfl rfl (by kernel_rfl) (fun _ _ _ h => h) (Or.inl ⟨by rfl, ?_⟩) ?_ ?_
      rotate_left
      · intro w'
        go_simp
        with_reducible rfl
      rotate_left
      · simp only [Act.put, List.setIfInBounds_toArray, List.set_cons_zero, List.set_cons_succ, i64_w, i32_w]
        rfl
      refine take_ (i := 11) (N := some 23) (v := ?_) (a' := ?_) #[true, true, true, true, true, true, true, true, true, true, true, true, false, false, false, false, false] rfl rfl (by kernel_rfl) (fun _ _ _ h => h) (Or.inl ⟨by rfl, ?_⟩) hHeld ?_ ?_
      rotate_left
      · rintro w' ⟨s0, s1, s2, s3, s4, s5⟩
        go_simp
        with_reducible rfl
      rotate_left
      · simp only [Act.put, List.setIfInBounds_toArray, List.set_cons_zero, List.set_cons_succ, i64_w, i32_w]
        rfl
      refine take_ (i := 12) (N := some 24) (v := ?_) (a' := ?_) #[true, true, true, true, true, true, true, true, true, true, true, true, true, false, false, false, false] rfl rfl (by kernel_rfl) (fun _ _ _ h => h) (Or.inl ⟨by rfl, ?_⟩) hHeld ?_ ?_
      rotate_left
      · rintro w' ⟨s0, s1, s2, s3, s4, s5⟩
        go_simp
        with_reducible rfl
      rotate_left
      · simp only [Act.put, List.setIfInBounds_toArray, List.set_cons_zero, List.set_cons_succ, i64_w, i32_w]
        rfl
      refine take_ (i := 13) (N := some 25) (v := ?_) (a' := ?_) #[true, true, true, true, true, true, true, true, true, true, true, true, true, true, false, false, false] rfl rfl (by kernel_rfl) (fun _ _ _ h => h) (Or.inl ⟨by rfl, ?_⟩) hHeld ?_ ?_
      rotate_left
      · rintro w' ⟨s0, s1, s2, s3, s4, s5⟩
        go_simp
        with_reducible rfl
      rotate_left
      · simp only [Act.put, List.setIfInBounds_toArray, List.set_cons_zero, List.set_cons_succ, i64_w, i32_w]
        rfl
      refine one_ (i := 14) (N := some 26) #[true, true, true, true, true, true, true, true, true, true, true, true, true, true, true, false, false] rfl rfl (by kernel_rfl) (by decide) (fun K hK => ?_)
      refine value_ (w1 := W0.alloc (.cells #[.int .i64 d.c, .int .i64 d.p, .int .i64 d.s, .slice d.A d.n d.k] 29)) (v := .slice (some ⟨W0.heap.size, 0, none⟩) 1 1) (by rfl) rfl (by go_simp) ?_
      refine hK.out _ _ (S3 hB hwfd (below_alloc hW0 _) (blk_alloc hd0 _)) (fun hHeld => ?_)
      clear hK K
      refine norm_ (a' := ?_) ?_ ?_
      rotate_left
      · show Act.put _ (some 26) _ = _
        simp only [Act.put, List.setIfInBounds_toArray, List.set_cons_zero, List.set_cons_succ, i64_w, i32_w]
        rfl
      refine one_ (i := 15) (N := some 27) #[true, true, true, true, true, true, true, true, true, true, true, true, true, true, true, true, false] rfl rfl (by kernel_rfl) (by decide) (fun K hK => ?_)
      refine step_append_cells base (by rfl) (.tmp 24) (.tmp 26) 30 29 _ 4 48 rfl Try.underlying30 info29 rfl (by omega) (by omega) (mv d.c) _ _ [.int .i64 d.c, .int .i64 d.p, .int .i64 d.s, .slice d.A d.n d.k] rfl rfl rfl (cells_plain d) (row0) hbW (by omega) (by omega) ?_
      intro v1 w2 hown2 hbw2 hgr2 hat2
      have hrow2 := row_of_own hown2
      refine hK.out _ _ (S3' hB hwfd hW0 hd0 (Nat.le_of_eq hdd) hgr2) (fun hHeld => ?_)
      clear hK K
      refine norm_ (a' := ?_) ?_ ?_
      rotate_left
      · show Act.put _ (some 27) _ = _
        simp only [Act.put, List.setIfInBounds_toArray, List.set_cons_zero, List.set_cons_succ, i64_w, i32_w]
        rfl
      obtain ⟨w3, hrun3, hmap3, hturn3⟩ := (own_after hB hW0 hgr2).store keyed3 Try.underlying43 (by simp only [maxLen]; omega) (key3 d.c hwfd) (val := v1) (d := .held v1) (ps := []) rfl
      refine last_ (i := 16) (N := none) #[true, true, true, true, true, true, true, true, true, true, true, true, true, true, true, true, true] rfl rfl (by kernel_rfl) (by decide) (fun K hK => ?_)
      refine skip_ (w1 := w3) (by rfl) rfl (by go_simp) ?_
      refine hK.out _ _ ?_
      clear hK K
      refine done_ (by kernel_rfl) ?_
      obtain ⟨hB3, hT3⟩ := hB.put d hwfd hW0 hgr2 hrow2 hat2 hmap3 hturn3 hF
      have hd3 : w3.drew.heap[dd]? = some (.cells #[.int .i64 d.c, .int .i64 d.p, .int .i64 d.s, .slice d.A d.n d.k] 29 (0, 0)) := by
        have h1 := (hgr2.block dd (blk_lt hd0) (fun e => by have := ((hB.row d.c).lt dd e.symm).2; omega)).trans hd0
        refine (hturn3.grown.block dd (blk_lt h1) (fun e => ?_)).trans h1
        have := hB.b_lt
        cases e
        omega
      have hdva : some dd ≠ va.ownBlock := fun e => by
        have := (hB.arow.lt dd e.symm).2
        omega
      have hW3 : Below w3.heap.size w3 w3.drew := below_drew1 (Below.refl _ _)
      clear hHeld hrun3 hmap3 hown2 hbw2 hW0 hW0' hd0' hd0 row0 hbW hrow2 hat2 hnew
      go_wp2
      refine start_ (n := 11) (S := fun w' => w'.cell? ⟨g, 1, none⟩ = some va ∧ w'.cell? ⟨dd, 0, none⟩ = some (.int .i64 d.c) ∧ w'.cell? ⟨dd, 1, none⟩ = some (.int .i64 d.p) ∧ w'.cell? ⟨dd, 2, none⟩ = some (.int .i64 d.s) ∧ w'.cell? ⟨dd, 3, none⟩ = some (.slice d.A d.n d.k) ∧ w'.frozen? ⟨g, 1, none⟩ = false) (ds := [10]) #[false, false, false, false, false, false, false, false, false, false, false] (by kernel_rfl) rfl rfl (S4 hB3 hW3 hd3) (fun hHeld => ?_)
      generalize w3.drew = W3 at hW3 hd3 hHeld ⊢
      have row3 := (hB3.arow.below hW3 : W3.ownsRow base 29 4 va _ _)
      have hbW3 := Below.refl base W3
      have hbs3 : base ≤ W3.heap.size := Nat.le_trans (Nat.le_of_lt (Nat.lt_of_le_of_lt hB3.hg (blk_lt hB3.blk))) hW3.size
      refine pure_ (i := 0) (N := some 28) (v := ?_) (a' := ?_) #[true, false, false, false, false, false, false, false, false, false, false] rfl rfl (by kernel_rfl) (fun _ _ _ h => h) (Or.inl ⟨by rfl, ?_⟩) ?_ ?_
      rotate_left
      · intro w'
        go_simp
        with_reducible rfl
      rotate_left
      · simp only [Act.put, List.setIfInBounds_toArray, List.set_cons_zero, List.set_cons_succ, i64_w, i32_w]
        rfl
      refine pure_ (i := 1) (N := some 29) (v := ?_) (a' := ?_) #[true, true, false, false, false, false, false, false, false, false, false] rfl rfl (by kernel_rfl) (fun _ _ _ h => h) (Or.inl ⟨by rfl, ?_⟩) ?_ ?_
      rotate_left
      · intro w'
        go_simp
        with_reducible rfl
      rotate_left
      · simp only [Act.put, List.setIfInBounds_toArray, List.set_cons_zero, List.set_cons_succ, i64_w, i32_w]
        rfl
      refine pure_ (i := 2) (N := some 30) (v := ?_) (a' := ?_) #[true, true, true, false, false, false, false, false, false, false, false] rfl rfl (by kernel_rfl) (fun _ _ _ h => h) (Or.inl ⟨by rfl, ?_⟩) ?_ ?_
      rotate_left
      · intro w'
        go_simp
        with_reducible rfl
      rotate_left
      · simp only [Act.put, List.setIfInBounds_toArray, List.set_cons_zero, List.set_cons_succ, i64_w, i32_w]
        rfl
      refine pure_ (i := 3) (N := some 31) (v := ?_) (a' := ?_) #[true, true, true, true, false, false, false, false, false, false, false] rfl rfl (by kernel_rfl) (fun _ _ _ h => h) (Or.inl ⟨by rfl, ?_⟩) ?_ ?_
      rotate_left
      · intro w'
        go_simp
        with_reducible rfl
      rotate_left
      · simp only [Act.put, List.setIfInBounds_toArray, List.set_cons_zero, List.set_cons_succ, i64_w, i32_w]
        rfl
      refine take_ (i := 4) (N := some 32) (v := ?_) (a' := ?_) #[true, true, true, true, true, false, false, false, false, false, false] rfl rfl (by kernel_rfl) (fun _ _ _ h => h) (Or.inl ⟨by rfl, ?_⟩) hHeld ?_ ?_
      rotate_left
      · rintro w' ⟨s0, s1, s2, s3, s4, s5⟩
        go_simp
        with_reducible rfl
      rotate_left
      · simp only [Act.put, List.setIfInBounds_toArray, List.set_cons_zero, List.set_cons_succ, i64_w, i32_w]
        rfl
      refine take_ (i := 5) (N := some 33) (v := ?_) (a' := ?_) #[true, true, true, true, true, true, false, false, false, false, false] rfl rfl (by kernel_rfl) (fun _ _ _ h => h) (Or.inl ⟨by rfl, ?_⟩) hHeld ?_ ?_
      rotate_left
      · rintro w' ⟨s0, s1, s2, s3, s4, s5⟩
        go_simp
        with_reducible rfl
      rotate_left
      · simp only [Act.put, List.setIfInBounds_toArray, List.set_cons_zero, List.set_cons_succ, i64_w, i32_w]
        rfl
      refine one_ (i := 6) (N := some 34) #[true, true, true, true, true, true, true, false, false, false, false] rfl rfl (by kernel_rfl) (by decide) (fun K hK => ?_)
      refine value_ (w1 := W3.alloc (.cells #[.int .i64 d.c, .int .i64 d.p, .int .i64 d.s, .slice d.A d.n d.k] 29)) (v := .slice (some ⟨W3.heap.size, 0, none⟩) 1 1) (by rfl) rfl (by go_simp) ?_
      refine hK.out _ _ (S4 hB3 (below_alloc hW3 _) (blk_alloc hd3 _)) (fun hHeld => ?_)
      clear hK K
      refine norm_ (a' := ?_) ?_ ?_
      rotate_left
      · show Act.put _ (some 34) _ = _
        simp only [Act.put, List.setIfInBounds_toArray, List.set_cons_zero, List.set_cons_succ, i64_w, i32_w]
        rfl
      refine one_ (i := 7) (N := some 35) #[true, true, true, true, true, true, true, true, false, false, false] rfl rfl (by kernel_rfl) (by decide) (fun K hK => ?_)
      refine step_append_cells base (by rfl) (.tmp 32) (.tmp 34) 30 29 _ 4 48 rfl Try.underlying30 info29 rfl (by omega) (by omega) va _ _ [.int .i64 d.c, .int .i64 d.p, .int .i64 d.s, .slice d.A d.n d.k] rfl rfl rfl (cells_plain d) (row3) hbW3 (by omega) (by omega) ?_
      intro v4 w4 hown4 hbw4 hgr4 hat4
      have hrow4 := row_of_own hown4
      obtain ⟨A4, c4, e4⟩ := hrow4.slice
      generalize (all ++ List.take k ds ++ [d]).length = n4 at e4
      subst e4
      refine hK.out _ _ (S4' hB3 hW3 hd3 hdva hgr4) (fun hHeld => ?_)
      clear hK K
      refine norm_ (a' := ?_) ?_ ?_
      rotate_left
      · show Act.put _ (some 35) _ = _
        simp only [Act.put, List.setIfInBounds_toArray, List.set_cons_zero, List.set_cons_succ, i64_w, i32_w]
        rfl
      refine pure_ (i := 8) (N := some 36) (v := ?_) (a' := ?_) #[true, true, true, true, true, true, true, true, true, false, false] rfl rfl (by kernel_rfl) (fun _ _ _ h => h) (Or.inl ⟨by rfl, ?_⟩) ?_ ?_
      rotate_left
      · intro w'
        go_simp
        with_reducible rfl
      rotate_left
      · simp only [Act.put, List.setIfInBounds_toArray, List.set_cons_zero, List.set_cons_succ, i64_w, i32_w]
        rfl
      refine pure_ (i := 9) (N := some 37) (v := ?_) (a' := ?_) #[true, true, true, true, true, true, true, true, true, true, false] rfl rfl (by kernel_rfl) (fun _ _ _ h => h) (Or.inl ⟨by rfl, ?_⟩) ?_ ?_
      rotate_left
      · intro w'
        go_simp
        with_reducible rfl
      rotate_left
      · simp only [Act.put, List.setIfInBounds_toArray, List.set_cons_zero, List.set_cons_succ, i64_w, i32_w]
        rfl
      obtain ⟨z1, z2, z3, z4, z5, z6⟩ := hHeld
      refine last_ (i := 10) (N := none) #[true, true, true, true, true, true, true, true, true, true, true] rfl rfl (by kernel_rfl) (by decide) (fun K hK => ?_)
      refine skip_ (w1 := w4.setCell ⟨g, 1, none⟩ (.slice A4 n4 c4)) (by rfl) rfl (by go_simp) ?_
      refine hK.out _ _ ?_
      clear hK K
      refine done_ (by kernel_rfl) ?_
      obtain ⟨hB4, hT4⟩ := hB3.tell d hW3 hgr4 hrow4 hat4 (fun q hq => hF q (Nat.le_trans hT3.size hq)) (Nat.succ_le_succ hla)
      have hT5 : Turn F w (w4.setCell ⟨g, 1, none⟩ (.slice A4 n4 c4)) :=
        (hturn.trans hT3 (fun q hq => hq)).trans hT4 (fun q hq => hq)
      have htk : ds.take (k + 1) = ds.take k ++ [d] := by rw [List.take_add_one, hd]; rfl
      clear hB3 hT3 hT4 hW3 hd3 hHeld hgr4 hrow4 hat4 hown4 hbw4 row3 hbW3
      go_wp2
      go_roundw
      case rel =>
        refine ⟨k + 1, by omega, by go_num, ?_, hT5⟩
        rw [htk, put_step, ← List.append_assoc]
        exact ⟨_, _, _, _, hB4⟩
      case measure => simp [intOf]; omega
    · have hke : k = ds.length := by omega
      subst hke
      have hnum : (Int.toNat (ds.length : Int)) = ds.length := Int.toNat_natCast _
      rw [List.take_length] at hbox
      go_wp2
      go_end0
      exact ⟨rfl, hbox, hturn⟩
end Go.Proofs.Ytallbobeehbkoaa.Boxes
