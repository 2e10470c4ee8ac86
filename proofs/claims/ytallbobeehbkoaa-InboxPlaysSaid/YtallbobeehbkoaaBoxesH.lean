import Derived.Test.YtallbobeehbkoaaBoxesE
namespace Go.Proofs.Ytallbobeehbkoaa.Boxes
open Go.RowKit Go.Proofs.YtallbobeehbkoaaW.PrintWords

/-- append(v, u...) of two rows. -/
theorem run_append_row (ty : TypeId) {W : World} {base b2 : Nat} {v u : Value} {xs ys : List Dv} (HO : Row W base v xs) (HX : Row W b2 u ys) (hbase : base ≤ W.heap.size) (hl : xs.length + ys.length ≤ 1048576) :
    ∃ v1 w1, (Builtin.append_ #[30, 30] ty #[v, u]).run Try.prog W = .ok v1 w1 ∧ Row w1 base v1 (xs ++ ys) ∧ W.grownBy w1 v.ownBlock ∧ (v1.ownBlock = v.ownBlock ∨ ∃ b, v1.ownBlock = some b ∧ W.heap.size ≤ b) := by
  obtain ⟨i0, hi, hzz⟩ := Option.map_eq_some_iff.1 info29
  simp only [Prod.mk.injEq] at hzz
  obtain ⟨hz0, hz1, hz2⟩ := hzz
  rcases HX.2 with ⟨rfl, h0⟩ | ⟨g, cap, cur, rfl, hg, hh, hn, hcap, hsz, htk⟩
  · obtain rfl : ys = [] := List.eq_nil_of_length_eq_zero h0
    refine ⟨v, W, ?_, by rw [List.append_nil]; exact HO, World.grownBy.refl W _, .inl rfl⟩
    rcases HO.2 with ⟨rfl, hn⟩ | ⟨g, cap, cur, rfl, _, _, hnc, _⟩
    · simp [Builtin.append_, run_underlying Try.underlying30, sizeOf, typeInfo, hi, Builtin.lenOf, Builtin.firstCells]
    · simp [Builtin.append_, run_underlying Try.underlying30, sizeOf, typeInfo, hi, Builtin.lenOf, Builtin.firstCells, hnc, storeCells]
  · obtain ⟨v1, w1, hrun, h2, hgr, _, hat⟩ := run_append_own_at (P := Try.prog) W base 30 ty 29 i0 _ 4 48 Try.underlying30 hi hz0 hz1 hz2 rfl (by omega) v xs.length (flat xs) HO ⟨g, 0, none⟩ ys.length cap (flat ys) (flat_length ys) (Row.cells HX) (flat_plain ys) (by simp only [maxLen]; omega) (by omega) hbase
    refine ⟨v1, w1, hrun, ?_, hgr, hat.elim .inl (fun h => .inr ⟨_, h, Nat.le_refl _⟩)⟩
    unfold Row
    rw [flat_append, List.length_append]
    exact h2
section
variable {ops : Array Oper} {rest : List Oper} {o : Oper} {a : Act} {Q : Exit → Act → World → Prop}
theorem wpList_append_row {W : World} (hgd : o.guard = none) (s x : Operand) (ho : o.op = .call { callee := .builtin .append, args := #[s, x], argTypes := #[30, 30] }) {base b2 : Nat} {v u : Value} {xs ys : List Dv} (hs : a.eval s = v) (hx : a.eval x = u)
    (HO : Row W base v xs) (HX : Row W b2 u ys) (hbase : base ≤ W.heap.size) (hl : xs.length + ys.length ≤ 1048576)
    (h : ∀ v1 w1, Row w1 base v1 (xs ++ ys) → W.grownBy w1 v.ownBlock → (v1.ownBlock = v.ownBlock ∨ ∃ b, v1.ownBlock = some b ∧ W.heap.size ≤ b) → wpList Try.prog ops Q rest (a.put o.dst v1) w1) :
    wpList Try.prog ops Q (o :: rest) a W := by
  obtain ⟨v1, w1, hr1, h1, hg, hat⟩ := run_append_row o.type HO HX hbase hl
  refine wpList_plain hgd fun K hK => ?_
  unfold Oper.wp execOp
  simp only [ho, resolve, invoke, builtin, Sem.run_bind, Sem.run_pure, Result.andThen_ok, List.map_toArray, List.map_cons, List.map_nil, hs, hx, hr1]
  exact hK _ _ (h v1 w1 h1 hg hat)
end
theorem row_empty (w : World) (base : Nat) (hb : base ≤ w.heap.size) : Row (w.alloc (.cells #[] 29)) base (.slice (some ⟨w.heap.size, 0, none⟩) 0 0) [] := by
  have := row_lit w base hb [] (by simp)
  simpa [flat] using this

/-- The value is a row of n deliveries whose cells may be anything (it is about to be written over). -/
def Any (w : World) (base : Nat) (v : Value) (n : Nat) : Prop := (v = .slice none 0 0 ∧ n = 0) ∨ ∃ g cap cur, v = .slice (some ⟨g, 0, none⟩) n cap ∧ base ≤ g ∧ w.heap[g]? = some (.cells cur 29 (0, 0)) ∧ n * 4 ≤ cur.size
theorem Row.any {w : World} {base : Nat} {v : Value} {ds : List Dv} (h : Row w base v ds) : Any w base v ds.length := by
  rcases h.2 with ⟨rfl, h0⟩ | ⟨g, cap, cur, rfl, hg, hh, hn, hcap, hsz, htk⟩
  · exact .inl ⟨rfl, h0⟩
  · exact .inr ⟨g, cap, cur, rfl, hg, hh, by rw [hsz]; exact Nat.mul_le_mul_right 4 hn⟩
theorem Any.below {w w' : World} {base n : Nat} {v : Value} (h : Any w base v n) (hb : Below w.heap.size w w') : Any w' base v n := by
  rcases h with h | ⟨g, cap, cur, rfl, hg, hh, hs⟩
  · exact .inl h
  · exact .inr ⟨g, cap, cur, rfl, hg, (hb.block g (blk_lt hh)).trans hh, hs⟩
theorem Any.set {w : World} {base n : Nat} {v : Value} (h : Any w base v n) (p j : Nat) (u : Value) : Any (w.setCell ⟨p, j, none⟩ u) base v n := by
  rcases h with h | ⟨g, cap, cur, rfl, hg, hh, hs⟩
  · exact .inl h
  · by_cases e : g = p
    · subst e
      exact .inr ⟨g, cap, _, rfl, hg, blk_set hh j u, by simpa using hs⟩
    · exact .inr ⟨g, cap, cur, rfl, hg, (Below.heap_setCell w ⟨p, j, none⟩ u g e).trans hh, hs⟩
theorem Any.at_ {w : World} {base n : Nat} {v : Value} (h : Any w base v n) {i : Nat} (hi : i < n) : ∃ g cap, v = .slice (some ⟨g, 0, none⟩) n cap ∧ base ≤ g ∧ ∀ j, j < 4 → (∃ u, w.cell? ⟨g, i * 4 + j, none⟩ = some u) ∧ w.frozen? ⟨g, i * 4 + j, none⟩ = false := by
  rcases h with ⟨_, h⟩ | ⟨g, cap, cur, rfl, hg, hh, hs⟩
  · omega
  · refine ⟨g, cap, rfl, hg, fun j hj => ⟨?_, blk_frozen hh _⟩⟩
    rw [blk_cell hh]
    exact ⟨_, Array.getElem?_eq_getElem (by omega)⟩
theorem Turn.set {S : Nat → Prop} {w w' : World} (h : Turn S w w') {g : Nat} (hg : S g) (j : Nat) (u : Value) : Turn S w (w'.setCell ⟨g, j, none⟩ u) := by
  have hb : Below 0 w' (w'.setCell ⟨g, j, none⟩ u) := (Below.refl 0 w').setCell (Nat.zero_le _) u
  exact ⟨hb.os.trans h.os, hb.tape.trans h.tape, hb.output.trans h.output, Nat.le_trans h.size hb.size, fun q hq hn => (Below.heap_setCell w' ⟨g, j, none⟩ u q (fun e => hn (e ▸ hg))).trans (h.block q hq hn)⟩
theorem look_any {w : World} {base g N : Nat} {F : Nat → Prop} {m : Int → List Dv} {all : List Dv} (h : Box w base g N F m all) (k : Int) (hk : wf k) (hN : N ≤ 1048576) :
    Calls Try.prog 9 #[.pointer (some ⟨g, 0, none⟩), .int .i64 k] w fun e w' => ∃ A n c, e = .returned (.slice A n c) ∧ n ≤ 1048576 ∧ Any w' w.heap.size (.slice A n c) n ∧ Below w.heap.size w w' := by
  refine (look_calls h k hk hN).mono ?_
  rintro e w' ⟨v, rfl, hr, hb⟩
  have ha := hr.any
  obtain ⟨A, c, rfl⟩ := hr.slice
  obtain ⟨b, va, mv, D, h⟩ := h
  exact ⟨A, _, c, rfl, Nat.le_trans (h.lm k) hN, ha, hb⟩
theorem all_any {w : World} {base g N : Nat} {F : Nat → Prop} {m : Int → List Dv} {all : List Dv} (h : Box w base g N F m all) (hN : N ≤ 1048576) :
    Calls Try.prog 11 #[.pointer (some ⟨g, 0, none⟩)] w fun e w' => ∃ A n c, e = .returned (.slice A n c) ∧ n ≤ 1048576 ∧ Any w' w.heap.size (.slice A n c) n ∧ Below w.heap.size w w' := by
  refine (all_calls h hN).mono ?_
  rintro e w' ⟨v, rfl, hr, hb⟩
  have ha := hr.any
  obtain ⟨A, c, rfl⟩ := hr.slice
  obtain ⟨b, va, mv, D, h⟩ := h
  exact ⟨A, _, c, rfl, Nat.le_trans h.la hN, ha, hb⟩
theorem Any.less {w : World} {base b n : Nat} {v : Value} (h : Any w base v n) (hb : b ≤ base) : Any w b v n := by
  rcases h with h | ⟨g, cap, cur, rfl, hg, hh, hs⟩
  · exact .inl h
  · exact .inr ⟨g, cap, cur, rfl, Nat.le_trans hb hg, hh, hs⟩
structure SL (w5 : World) (gs : Nat) (v7 : Value) (m7 : Nat) (v8 : Value) (m8 : Nat) (w : World) : Prop where
  bel : Below w5.heap.size w5 w
  blk : w.heap[gs]? = some (.cells #[v7, v8] 30 (0, 0))
  a7 : Any w w5.heap.size v7 m7
  a8 : Any w w5.heap.size v8 m8
theorem SL.set {w5 : World} {gs : Nat} {v7 v8 v : Value} {m7 m8 n : Nat} {w : World} (h : SL w5 gs v7 m7 v8 m8 w) (hv : Any w w5.heap.size v n) {i : Nat} (hi : i < n) :
    ∃ g cap, v = .slice (some ⟨g, 0, none⟩) n cap ∧ (∃ u, w.cell? ⟨g, i * 4, none⟩ = some u) ∧ w.frozen? ⟨g, i * 4, none⟩ = false ∧ ∀ u, SL w5 gs v7 m7 v8 m8 (w.setCell ⟨g, i * 4, none⟩ u) := by
  rcases hv with ⟨_, h0⟩ | ⟨g, cap, cur, rfl, hg, hh, hs⟩
  · omega
  · refine ⟨g, cap, rfl, ?_, blk_frozen hh _, fun u => ⟨h.bel.setCell hg u, ?_, h.a7.set _ _ _, h.a8.set _ _ _⟩⟩
    · rw [blk_cell hh]
      exact ⟨_, Array.getElem?_eq_getElem (by omega)⟩
    · exact (Below.heap_setCell w ⟨g, i * 4, none⟩ u gs (blk_ne h.blk hh (by decide))).trans h.blk
end Go.Proofs.Ytallbobeehbkoaa.Boxes
