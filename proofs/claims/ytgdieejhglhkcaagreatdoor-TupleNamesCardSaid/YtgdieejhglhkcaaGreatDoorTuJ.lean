import Derived.Test.YtgdieejhglhkcaaGreatDoorTuB
import Derived.Deep.LoopGhost
namespace Go.Proofs.YtgdieejhglhkcaaGreatDoor.MTup
open Go.RowKit Go.Lib Go.Proofs.YtgdieejhglhkcaaGreatDoorW.PrintWords Go.Proofs.YtgdieejhglhkcaaGreatDoorW.PrintLast Go.Proofs.YtgdieejhglhkcaaGreatDoorW.PrintMore
set_option linter.unusedVariables false
set_option linter.unusedSimpArgs false
abbrev enc25 (x : S25) : List Value := [.string x.f0, .bool x.f1.f0, .int .i64 x.f1.f1, .string x.f1.f2]
def flat25 : List S25 → List Value
  | [] => []
  | x :: r => .string x.f0 :: .bool x.f1.f0 :: .int .i64 x.f1.f1 :: .string x.f1.f2 :: flat25 r
theorem flat25_length : ∀ xs : List S25, (flat25 xs).length = xs.length * 4
  | [] => rfl
  | x :: r => by simp [flat25, flat25_length r, Nat.succ_mul]
theorem flat25_append : ∀ xs ys : List S25, flat25 (xs ++ ys) = flat25 xs ++ flat25 ys
  | [], _ => rfl
  | x :: r, ys => by simp [flat25, flat25_append r ys]
theorem flat25_take : ∀ (xs : List S25) (i : Nat), (flat25 xs).take (i * 4) = flat25 (xs.take i)
  | [], i => by simp [flat25]
  | x :: r, 0 => by simp [flat25]
  | x :: r, i + 1 => by
    rw [Nat.succ_mul, flat25]
    simp only [List.take_succ_cons]
    rw [flat25_take r i, flat25]
theorem flat25_drop : ∀ (xs : List S25) (i : Nat), (flat25 xs).drop (i * 4) = flat25 (xs.drop i)
  | [], i => by simp [flat25]
  | x :: r, 0 => by simp
  | x :: r, i + 1 => by
    rw [Nat.succ_mul, flat25]
    simp only [List.drop_succ_cons]
    exact flat25_drop r i
theorem flat25_one : ∀ (xs : List S25), ∀ u ∈ flat25 xs, u.oneCell' = true
  | [], u, h => by simp [flat25] at h
  | x :: r, u, h => by
    simp only [flat25, List.mem_cons] at h
    rcases h with rfl | rfl | rfl | rfl | h
    · rfl
    · rfl
    · rfl
    · rfl
    · exact flat25_one r u h
theorem flat25_reps (w : World) (base : Nat) (ok : Nat → Prop) : ∀ xs : List S25, Reps (k25.M w base ok) 4 xs (flat25 xs) := by
  intro xs
  refine ⟨flat25_length xs, fun j p hj => ?_⟩
  have hlt : j < xs.length := (List.getElem?_eq_some_iff.1 hj).1
  rw [flat25_drop]
  have : xs.drop j = p :: xs.drop (j + 1) := by
    rw [List.getElem?_eq_getElem hlt] at hj
    rw [List.drop_eq_getElem_cons hlt, Option.some.inj hj]
  rw [this]
  exact k25_mkM w base ok p
theorem R_of_flat {w : World} {base : Nat} {v : Value} {xs : List S25} (h : w.ownsRow base 25 4 v xs.length (flat25 xs)) : Kd.R k25 25 w base (fun _ => True) v xs :=
  ⟨fun _ _ => trivial, flat25 xs, h, flat25_reps _ _ _ _⟩
abbrev Own25 (w : World) (base : Nat) (v : Value) (xs : List S25) : Prop := w.ownsRow base 25 4 v xs.length (flat25 xs)
theorem reps_flat {w : World} : ∀ (ys : List S25) (news : List Value), Reps (k25.K w) 4 ys news → news = flat25 ys
  | [], news, h => by
    have := h.1
    simp at this
    subst this
    rfl
  | y :: t, news, h => by
    have h0 := k25_open (h.2 0 y rfl)
    have hl := h.1
    simp only [List.length_cons] at hl
    have ht : Reps (k25.K w) 4 t (news.drop 4) := by
      refine ⟨by rw [List.length_drop]; omega, fun j p hj => ?_⟩
      have := h.2 (j + 1) p (by simpa using hj)
      rw [List.drop_drop]
      rw [show (j + 1) * 4 = 4 + j * 4 by omega] at this
      exact this
    have e := reps_flat t _ ht
    rw [Nat.zero_mul, List.drop_zero] at h0
    have e2 : news = news.take 4 ++ news.drop 4 := (List.take_append_drop 4 news).symm
    rw [e2, h0, e]
    rfl
theorem run_app25 {W : World} {base : Nat} {v : Value} {xs ys : List S25} {A : Option Addr} (c : Nat) (HO : Own25 W base v xs) (HX : Kd.C k25 W A ys.length ys) (hbase : base ≤ W.heap.size) (hl : xs.length + ys.length ≤ 2932031007402) :
    ∃ v1 w1, (Builtin.append_ #[26, 26] 26 #[v, .slice A ys.length c]).run Tryz.prog W = .ok v1 w1 ∧ Own25 w1 base v1 (xs ++ ys) ∧ W.grownBy w1 v.ownBlock ∧ (v1.ownBlock = v.ownBlock ∨ ∃ b, v1.ownBlock = some b ∧ W.heap.size ≤ b) := by
  obtain ⟨i0, hi, hzz⟩ := Option.map_eq_some_iff.1 info25
  simp only [Prod.mk.injEq] at hzz
  obtain ⟨hz0, hz1, hz2⟩ := hzz
  rcases A with _ | ad
  · have h0 : ys.length = 0 := by
      rcases Nat.eq_zero_or_pos ys.length with h0 | h0
      · exact h0
      · obtain ⟨ad, h, _⟩ := HX.2.2 h0
        cases h
    obtain rfl : ys = [] := List.eq_nil_of_length_eq_zero h0
    refine ⟨v, W, ?_, by rw [List.append_nil]; exact HO, World.grownBy.refl W _, .inl rfl⟩
    rcases HO.2 with ⟨rfl, hn⟩ | ⟨g, cap, cur, rfl, _, _, hnc, _⟩
    · simp [Builtin.append_, run_underlying Tryz.underlying26, sizeOf, typeInfo, hi, Builtin.lenOf, Builtin.firstCells]
    · simp [Builtin.append_, run_underlying Tryz.underlying26, sizeOf, typeInfo, hi, Builtin.lenOf, Builtin.firstCells, hnc, storeCells]
  · obtain ⟨news, hnr, hnc⟩ := ReadsRow.inner_ HX
    obtain rfl := reps_flat ys news hnr
    obtain ⟨v1, w1, hrun, h2, hgr, _, hat⟩ := run_append_own_at (P := Tryz.prog) W base 26 26 25 i0 _ 4 48 Tryz.underlying26 hi hz0 hz1 hz2 rfl (by omega) v xs.length (flat25 xs) HO ad ys.length c (flat25 ys) (flat25_length ys) hnc (flat25_one ys) (by simp only [maxLen]; omega) (by omega) hbase
    refine ⟨v1, w1, hrun, ?_, hgr, hat.elim .inl (fun h => .inr ⟨_, h, Nat.le_refl _⟩)⟩
    unfold Own25
    rw [flat25_append, List.length_append]
    exact h2
section
variable {ops : Array Oper} {oi o : Oper} {rest : List Oper} {a : Act} {Q : Exit → Act → World → Prop} {K : Act → World → Prop}
theorem step_app25 {W w1 : World} {N : Option Tmp} {v u v1 : Value} (hw : Region.wanted oi (yielded ops a.tmps) = true) (hN : oi.dst = N) (s x : Operand) (ho : oi.op = .call { callee := .builtin .append, args := #[s, x], argTypes := #[26, 26] })
    (ht : oi.type = 26) (hs : a.eval s = v) (hx : a.eval x = u) (hrun : (Builtin.append_ #[26, 26] 26 #[v, u]).run Tryz.prog W = .ok v1 w1) (h : K (a.put N v1) w1) :
    if Region.wanted oi (yielded ops a.tmps) = true then Oper.wp Tryz.prog oi a W K Q else K (a.put N undef) W := by
  refine value_ hw hN ?_ h
  unfold execOp
  simp only [ho, ht, resolve, invoke, builtin, Sem.run_bind, Sem.run_pure, Result.andThen_ok, List.map_toArray, List.map_cons, List.map_nil, hs, hx, hrun]
theorem wpList_app25 {W : World} (hgd : o.guard = none) (s x : Operand) (ho : o.op = .call { callee := .builtin .append, args := #[s, x], argTypes := #[26, 26] }) (ht : o.type = 26) {base c : Nat} {v : Value} {A : Option Addr} {xs ys : List S25} (hs : a.eval s = v) (hx : a.eval x = .slice A ys.length c)
    (HO : Own25 W base v xs) (HX : Kd.C k25 W A ys.length ys) (hbase : base ≤ W.heap.size) (hl : xs.length + ys.length ≤ 2932031007402)
    (h : ∀ v1 w1, Own25 w1 base v1 (xs ++ ys) → W.grownBy w1 v.ownBlock → (v1.ownBlock = v.ownBlock ∨ ∃ b, v1.ownBlock = some b ∧ W.heap.size ≤ b) → wpList Tryz.prog ops Q rest (a.put o.dst v1) w1) :
    wpList Tryz.prog ops Q (o :: rest) a W := by
  obtain ⟨v1, w1, hr1, h1, hg, hat⟩ := run_app25 c HO HX hbase hl
  refine wpList_plain hgd fun K hK => ?_
  unfold Oper.wp execOp
  simp only [ho, ht, resolve, invoke, builtin, Sem.run_bind, Sem.run_pure, Result.andThen_ok, List.map_toArray, List.map_cons, List.map_nil, hs, hx, hr1]
  exact hK _ _ (h v1 w1 h1 hg hat)
end
theorem own25_of_cells {W : World} {g base : Nat} {ds : List S25} (h : W.heap[g]? = some (.cells (flat25 ds).toArray 25 (0, 0))) (hl : ds.length ≤ 2932031007402) (hb : base ≤ g) : Own25 W base (.slice (some ⟨g, 0, none⟩) ds.length ds.length) ds := by
  refine ⟨flat25_length ds, .inr ⟨g, ds.length, (flat25 ds).toArray, rfl, hb, h, Nat.le_refl _, by simp only [maxLen]; omega, by simpa using flat25_length ds, ?_⟩⟩
  simp [flat25_length]
  rw [← flat25_length ds, List.take_length]
theorem own25_C {W : World} {base n : Nat} {v : Value} {xs : List S25} (h : Own25 W base v xs) (hn : xs.length = n) : ∃ A c, v = .slice A n c ∧ n ≤ c ∧ Kd.C k25 W A n xs := by
  subst hn
  exact Kd.R_reads (R_of_flat h)
theorem own25_below {W W1 : World} {base : Nat} {v : Value} {xs : List S25} (h : Own25 W base v xs) (hb : Below W.heap.size W W1) : Own25 W1 base v xs := own_move h (fun q hq => hb.block q (own_lt h q hq))
/-- What the orders of a region's build and append leave. -/
structure JR (W0 : World) (base : Nat) (ds : List S25) (d : S25) (v85 v87 : Value) (W : World) : Prop where
  bel : Below W0.heap.size W0 W
  row : Own25 W base v85 ds
  fr : ∀ q, v85.ownBlock = some q → W0.heap.size ≤ q
  lit : ∃ gq, v87 = .slice (some ⟨gq, 0, none⟩) 1 1 ∧ W0.heap.size ≤ gq ∧ W.heap[gq]? = some (.cells (enc25 d).toArray 25 (0, 0)) ∧ v85.ownBlock ≠ some gq
theorem grown_below {W0 W w1 : World} {g : Option Nat} (hb : Below W0.heap.size W0 W) (hg : W.grownBy w1 g) (hf : ∀ q, g = some q → W0.heap.size ≤ q) : Below W0.heap.size W0 w1 :=
  pw_below_grown hb _ hb.size hg hf
theorem jr_one {W0 W : World} {base g81 c : Nat} {ds : List S25} {A : Option Addr} (hW : Below W0.heap.size W0 W) (hbase : base ≤ W0.heap.size) (h81 : W.heap[g81]? = some (.cells #[] 25 (0, 0))) (hg : W0.heap.size ≤ g81) (HX : Kd.C k25 W A ds.length ds) (hl : ds.length ≤ 2932031007401) :
    ∃ v1 w1, (Builtin.append_ #[26, 26] 26 #[.slice (some ⟨g81, 0, none⟩) 0 0, .slice A ds.length c]).run Tryz.prog W = .ok v1 w1 ∧ Own25 w1 base v1 ds ∧ Below W0.heap.size W0 w1 ∧ (∀ q, v1.ownBlock = some q → W0.heap.size ≤ q) ∧
      (∀ p, p < W.heap.size → p ≠ g81 → w1.heap[p]? = W.heap[p]? ∧ v1.ownBlock ≠ some p) ∧ W.heap.size ≤ w1.heap.size := by
  have HO : Own25 W base (.slice (some ⟨g81, 0, none⟩) 0 0) [] := own25_of_cells (ds := []) (by simpa [flat25] using h81) (by simp) (Nat.le_trans hbase hg)
  obtain ⟨v1, w1, hrun, hrow, hgr, hat⟩ := run_app25 c HO HX (Nat.le_trans hbase hW.size) (by simp; omega)
  rw [List.nil_append] at hrow
  have hv : ∀ q, v1.ownBlock = some q → q = g81 ∨ W.heap.size ≤ q := fun q hq => by
    rcases hat with hat | ⟨b, hb, hle⟩
    · rw [hat] at hq
      simp [Value.ownBlock] at hq
      exact .inl hq.symm
    · rw [hq] at hb
      cases hb
      exact .inr hle
  have hsz := hW.size
  have hg81 := blk_lt h81
  exact ⟨v1, w1, hrun, hrow, grown_below hW hgr (fun q hq => by simp [Value.ownBlock] at hq; omega), fun q hq => (hv q hq).elim (fun e => by omega) (fun e => by omega),
    fun p hp hne => ⟨hgr.block p hp (fun e => hne (by simp [Value.ownBlock] at e; exact e)), fun e => (hv p e).elim hne (fun e => by omega)⟩, hgr.size⟩
theorem jr_early {W0 W w1 : World} {base g81 gq : Nat} {ds : List S25} {d : S25} {v1 : Value} (hrow : Own25 w1 base v1 ds) (hbel : Below W0.heap.size W0 w1) (hfr : ∀ q, v1.ownBlock = some q → W0.heap.size ≤ q)
    (hkeep : ∀ p, p < W.heap.size → p ≠ g81 → w1.heap[p]? = W.heap[p]? ∧ v1.ownBlock ≠ some p) (hq : W.heap[gq]? = some (.cells (enc25 d).toArray 25 (0, 0))) (hle : W0.heap.size ≤ gq) (hne : gq ≠ g81) :
    JR W0 base ds d v1 (.slice (some ⟨gq, 0, none⟩) 1 1) w1 := by
  obtain ⟨h1, h2⟩ := hkeep gq (blk_lt hq) hne
  exact ⟨hbel, hrow, hfr, gq, rfl, hle, h1.trans hq, h2⟩
theorem jr_late {W0 w1 : World} {base : Nat} {ds : List S25} {d : S25} {v1 : Value} (hrow : Own25 w1 base v1 ds) (hbel : Below W0.heap.size W0 w1) (hfr : ∀ q, v1.ownBlock = some q → W0.heap.size ≤ q) :
    JR W0 base ds d v1 (.slice (some ⟨w1.heap.size, 0, none⟩) 1 1) (w1.alloc (.cells (enc25 d).toArray 25)) :=
  ⟨below_alloc hbel _, own25_below hrow (below_alloc (Below.refl _ _) _), hfr, w1.heap.size, rfl, hbel.size, heap_alloc_new w1 _, fun e => by have := own_lt hrow _ e; omega⟩
/-- The second append: the row with d behind it. -/
theorem jr_two {W0 W : World} {base : Nat} {ds : List S25} {d : S25} {v85 v87 : Value} (h : JR W0 base ds d v85 v87 W) (hbase : base ≤ W0.heap.size) (hl : ds.length ≤ 2932031007401) :
    ∃ v88 w2, (Builtin.append_ #[26, 26] 26 #[v85, v87]).run Tryz.prog W = .ok v88 w2 ∧ Own25 w2 base v88 (ds ++ [d]) ∧ Below W0.heap.size W0 w2 ∧ (∀ q, v88.ownBlock = some q → W0.heap.size ≤ q) := by
  obtain ⟨gq, rfl, h1, h2, h3⟩ := h.lit
  have HX := own25_of_cells (base := 0) (ds := [d]) (by simpa [flat25] using h2) (by simp) (Nat.zero_le _)
  obtain ⟨A, c, e, _, hC⟩ := own25_C HX rfl
  cases e
  obtain ⟨v1, w1, hrun, hrow, hgr, hat⟩ := run_app25 1 h.row hC (Nat.le_trans hbase h.bel.size) (by simp; omega)
  have hsz := h.bel.size
  exact ⟨v1, w1, hrun, hrow, grown_below h.bel hgr h.fr, fun q hq => by
    rcases hat with hat | ⟨b, hb, hle⟩
    · exact h.fr q (hat ▸ hq)
    · rw [hq] at hb
      cases hb
      omega⟩
/-- The third append: what stands behind. -/
theorem jr_three {W0 W : World} {base c : Nat} {xs ys : List S25} {v : Value} {A : Option Addr} (hrow : Own25 W base v xs) (hbel : Below W0.heap.size W0 W) (hfr : ∀ q, v.ownBlock = some q → W0.heap.size ≤ q) (HX : Kd.C k25 W0 A ys.length ys) (hbase : base ≤ W0.heap.size) (hl : xs.length + ys.length ≤ 2932031007402) :
    ∃ v88 w2, (Builtin.append_ #[26, 26] 26 #[v, .slice A ys.length c]).run Tryz.prog W = .ok v88 w2 ∧ Own25 w2 base v88 (xs ++ ys) ∧ Below W0.heap.size W0 w2 := by
  obtain ⟨v1, w1, hrun, hrow, hgr, hat⟩ := run_app25 c hrow (Kd.C_below HX hbel) (Nat.le_trans hbase hbel.size) hl
  exact ⟨v1, w1, hrun, hrow, grown_below hbel hgr hfr⟩
end Go.Proofs.YtgdieejhglhkcaaGreatDoor.MTup
