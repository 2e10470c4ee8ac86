import Derived.Test.YtallbobeehbkoaaBoxesK
namespace Go.Proofs.Ytallbobeehbkoaa.Boxes
open Go.RowKit Go.Proofs.YtallbobeehbkoaaW.PrintWords Go.Proofs.YtallbobeehbkoaaW.PrintLast
set_option linter.unusedVariables false
set_option linter.unusedSimpArgs false
section
variable {ops : Array Oper} {oi : Oper} {a : Act} {Q : Exit → Act → World → Prop} {K : Act → World → Prop}
theorem step_append_row {W w1 : World} {N : Option Tmp} {v u v1 : Value} (hw : Region.wanted oi (yielded ops a.tmps) = true) (hN : oi.dst = N) (s x : Operand) (ho : oi.op = .call { callee := .builtin .append, args := #[s, x], argTypes := #[30, 30] })
    (hs : a.eval s = v) (hx : a.eval x = u) (hrun : (Builtin.append_ #[30, 30] oi.type #[v, u]).run Try.prog W = .ok v1 w1) (h : K (a.put N v1) w1) :
    if Region.wanted oi (yielded ops a.tmps) = true then Oper.wp Try.prog oi a W K Q else K (a.put N undef) W := by
  refine value_ hw hN ?_ h
  unfold execOp
  simp only [ho, resolve, invoke, builtin, Sem.run_bind, Sem.run_pure, Result.andThen_ok, List.map_toArray, List.map_cons, List.map_nil, hs, hx, hrun]
end
theorem row_of_cells {W : World} {g : Nat} {ds : List Dv} (h : W.heap[g]? = some (.cells (flat ds).toArray 29 (0, 0))) (hl : ds.length ≤ 1048576) : Row W 0 (.slice (some ⟨g, 0, none⟩) ds.length ds.length) ds := by
  refine ⟨flat_length ds, .inr ⟨g, ds.length, (flat ds).toArray, rfl, Nat.zero_le _, h, Nat.le_refl _, by simp only [maxLen]; omega, by simpa using flat_length ds, ?_⟩⟩
  simp [flat_length]
  rw [← flat_length ds, List.take_length]
/-- What the orders of a region's build and append leave. -/
structure JF (W0 : World) (base : Nat) (ds : List Dv) (d : Dv) (v85 v87 : Value) (W : World) : Prop where
  bel : Below W0.heap.size W0 W
  row : Row W base v85 ds
  fr : ∀ q, v85.ownBlock = some q → W0.heap.size ≤ q
  lit : ∃ gq, v87 = .slice (some ⟨gq, 0, none⟩) 1 1 ∧ W0.heap.size ≤ gq ∧ W.heap[gq]? = some (.cells d.cells.toArray 29 (0, 0)) ∧ v85.ownBlock ≠ some gq
theorem jf_one {W0 W : World} {base b2 g81 : Nat} {ds : List Dv} {u : Value} (hW : Below W0.heap.size W0 W) (hbase : base ≤ W0.heap.size) (h81 : W.heap[g81]? = some (.cells #[] 29 (0, 0))) (hg : W0.heap.size ≤ g81) (HX : Row W b2 u ds) (hl : ds.length ≤ 1048575) :
    ∃ v1 w1, (Builtin.append_ #[30, 30] 30 #[.slice (some ⟨g81, 0, none⟩) 0 0, u]).run Try.prog W = .ok v1 w1 ∧ Row w1 base v1 ds ∧ Below W0.heap.size W0 w1 ∧ (∀ q, v1.ownBlock = some q → W0.heap.size ≤ q) ∧
      (∀ p, p < W.heap.size → p ≠ g81 → w1.heap[p]? = W.heap[p]? ∧ v1.ownBlock ≠ some p) ∧ W.heap.size ≤ w1.heap.size := by
  have HO : Row W base (.slice (some ⟨g81, 0, none⟩) 0 0) [] := by
    have h := row_of_cells (ds := []) (by simpa [flat] using h81) (by simp)
    obtain ⟨h1, h2⟩ := h
    refine ⟨h1, ?_⟩
    rcases h2 with ⟨e, _⟩ | ⟨g, cap, cur, e, _, r⟩
    · cases e
    · have e2 : g = g81 := by cases e; rfl
      exact .inr ⟨g, cap, cur, e, by omega, r⟩
  obtain ⟨v1, w1, hrun, hrow, hgr, hat⟩ := run_append_row 30 HO HX (Nat.le_trans hbase hW.size) (by simp; omega)
  rw [List.nil_append] at hrow
  have hT : Turn (fun q => q = g81) W w1 := Turn.of_grown hgr (fun q hq => by simp [Value.ownBlock] at hq; exact hq.symm)
  have hv : ∀ q, v1.ownBlock = some q → q = g81 ∨ W.heap.size ≤ q := fun q hq => by
    rcases hat with hat | ⟨b, hb, hle⟩
    · rw [hat] at hq
      simp [Value.ownBlock] at hq
      exact .inl hq.symm
    · rw [hq] at hb
      cases hb
      exact .inr hle
  have hsz := hW.size
  exact ⟨v1, w1, hrun, hrow, hW.trans (hT.below hsz (fun q hq => by omega)), fun q hq => (hv q hq).elim (fun e => by omega) (fun e => by omega),
    fun p hp hne => ⟨hT.block p hp (fun e => hne e), fun e => (hv p e).elim hne (fun e => by omega)⟩, hT.size⟩
theorem jf_early {W0 W w1 : World} {base g81 gq : Nat} {ds : List Dv} {d : Dv} {v1 : Value} (hrow : Row w1 base v1 ds) (hbel : Below W0.heap.size W0 w1) (hfr : ∀ q, v1.ownBlock = some q → W0.heap.size ≤ q)
    (hkeep : ∀ p, p < W.heap.size → p ≠ g81 → w1.heap[p]? = W.heap[p]? ∧ v1.ownBlock ≠ some p) (hq : W.heap[gq]? = some (.cells d.cells.toArray 29 (0, 0))) (hle : W0.heap.size ≤ gq) (hne : gq ≠ g81) :
    JF W0 base ds d v1 (.slice (some ⟨gq, 0, none⟩) 1 1) w1 := by
  obtain ⟨h1, h2⟩ := hkeep gq (blk_lt hq) hne
  exact ⟨hbel, hrow, hfr, gq, rfl, hle, h1.trans hq, h2⟩
theorem jf_late {W0 w1 : World} {base : Nat} {ds : List Dv} {d : Dv} {v1 : Value} (hrow : Row w1 base v1 ds) (hbel : Below W0.heap.size W0 w1) (hfr : ∀ q, v1.ownBlock = some q → W0.heap.size ≤ q) :
    JF W0 base ds d v1 (.slice (some ⟨w1.heap.size, 0, none⟩) 1 1) (w1.alloc (.cells d.cells.toArray 29)) :=
  ⟨below_alloc hbel _, hrow.below (below_alloc (Below.refl _ _) _), hfr, w1.heap.size, rfl, hbel.size, heap_alloc_new w1 _, fun e => by have := (hrow.lt _ e).2; omega⟩
/-- The second append: the row with d behind it. -/
theorem jf_end {W0 W : World} {base : Nat} {ds : List Dv} {d : Dv} {v85 v87 : Value} (h : JF W0 base ds d v85 v87 W) (hbase : base ≤ W0.heap.size) (hl : ds.length ≤ 1048575) :
    ∃ v88 w2, (Builtin.append_ #[30, 30] 30 #[v85, v87]).run Try.prog W = .ok v88 w2 ∧ Row w2 base v88 (ds ++ [d]) ∧ Below W0.heap.size W0 w2 ∧ (∀ q, v88.ownBlock = some q → W0.heap.size ≤ q) := by
  obtain ⟨gq, rfl, h1, h2, h3⟩ := h.lit
  have HX : Row W 0 (.slice (some ⟨gq, 0, none⟩) 1 1) [d] := row_of_cells (ds := [d]) (by rw [flat_one]; exact h2) (by simp)
  obtain ⟨v1, w1, hrun, hrow, hgr, hat⟩ := run_append_row 30 h.row HX (Nat.le_trans hbase h.bel.size) (by simp; omega)
  have hT : Turn (fun q => v85.ownBlock = some q) W w1 := Turn.of_grown hgr (fun q hq => hq)
  have hsz := h.bel.size
  exact ⟨v1, w1, hrun, hrow, h.bel.trans (hT.below hsz h.fr), fun q hq => by
    rcases hat with hat | ⟨b, hb, hle⟩
    · exact h.fr q (hat ▸ hq)
    · rw [hq] at hb
      cases hb
      omega⟩
theorem put_two (m : Int → List Dv) (d e : Dv) : (fun q => if q = e.c then (fun q => if q = d.c then m d.c ++ [d] else m q) e.c ++ [e] else (fun q => if q = d.c then m d.c ++ [d] else m q) q) = putTo m [d, e] := by
  have h1 : putTo m ([] ++ [d]) = fun q => if q = d.c then m d.c ++ [d] else m q := by
    rw [put_step]
    funext q
    by_cases h : q = d.c
    · subst h; simp [putTo]
    · simp [putTo, h]
  have h2 := put_step m [d] e
  rw [List.nil_append] at h1
  show _ = putTo m ([d] ++ [e])
  rw [h2, h1]
  funext q
  by_cases h : q = e.c
  · subst h; simp
  · simp [h]
end Go.Proofs.Ytallbobeehbkoaa.Boxes
