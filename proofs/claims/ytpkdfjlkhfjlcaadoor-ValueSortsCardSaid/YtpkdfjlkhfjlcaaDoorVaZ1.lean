import Derived.Test.YtpkdfjlkhfjlcaaDoorVaR
namespace Go.Proofs.YtpkdfjlkhfjlcaaDoor.MVal
open Go.RowKit Go.Proofs.YtpkdfjlkhfjlcaaDoorW.PrintWords Go.Proofs.YtpkdfjlkhfjlcaaDoorW.PrintLast Go.Proofs.YtpkdfjlkhfjlcaaDoorW.PrintMore
set_option linter.unusedVariables false
set_option linter.unusedSimpArgs false
abbrev enc51 (x : S51) : List Value := [.bool x.f0, .int .i64 x.f1, .string x.f2]
def flat51 : List S51 → List Value
  | [] => []
  | x :: r => .bool x.f0 :: .int .i64 x.f1 :: .string x.f2 :: flat51 r
theorem flat51_length : ∀ xs : List S51, (flat51 xs).length = xs.length * 3
  | [] => rfl
  | x :: r => by simp [flat51, flat51_length r, Nat.succ_mul]
theorem flat51_append : ∀ xs ys : List S51, flat51 (xs ++ ys) = flat51 xs ++ flat51 ys
  | [], _ => rfl
  | x :: r, ys => by simp [flat51, flat51_append r ys]
theorem flat51_take : ∀ (xs : List S51) (i : Nat), (flat51 xs).take (i * 3) = flat51 (xs.take i)
  | [], i => by simp [flat51]
  | x :: r, 0 => by simp [flat51]
  | x :: r, i + 1 => by
    rw [Nat.succ_mul, flat51]
    simp only [List.take_succ_cons]
    rw [flat51_take r i, flat51]
theorem flat51_drop : ∀ (xs : List S51) (i : Nat), (flat51 xs).drop (i * 3) = flat51 (xs.drop i)
  | [], i => by simp [flat51]
  | x :: r, 0 => by simp
  | x :: r, i + 1 => by
    rw [Nat.succ_mul, flat51]
    simp only [List.drop_succ_cons]
    exact flat51_drop r i
theorem flat51_one : ∀ (xs : List S51), ∀ u ∈ flat51 xs, u.oneCell' = true
  | [], u, h => by simp [flat51] at h
  | x :: r, u, h => by
    simp only [flat51, List.mem_cons] at h
    rcases h with rfl | rfl | rfl | h
    · rfl
    · rfl
    · rfl
    · exact flat51_one r u h
theorem flat51_reps (w : World) (base : Nat) (ok : Nat → Prop) : ∀ xs : List S51, Reps (k51.M w base ok) 3 xs (flat51 xs) := by
  intro xs
  refine ⟨flat51_length xs, fun j p hj => ?_⟩
  have hlt : j < xs.length := (List.getElem?_eq_some_iff.1 hj).1
  rw [flat51_drop]
  have : xs.drop j = p :: xs.drop (j + 1) := by
    rw [List.getElem?_eq_getElem hlt] at hj
    rw [List.drop_eq_getElem_cons hlt, Option.some.inj hj]
  rw [this]
  exact k51_mkM w base ok p
theorem R_of_flat {w : World} {base : Nat} {v : Value} {xs : List S51} (h : w.ownsRow base 51 3 v xs.length (flat51 xs)) : Kd.R k51 51 w base (fun _ => True) v xs :=
  ⟨fun _ _ => trivial, flat51 xs, h, flat51_reps _ _ _ _⟩
abbrev Own51 (w : World) (base : Nat) (v : Value) (xs : List S51) : Prop := w.ownsRow base 51 3 v xs.length (flat51 xs)
theorem reps_flat {w : World} : ∀ (ys : List S51) (news : List Value), Reps (k51.K w) 3 ys news → news = flat51 ys
  | [], news, h => by
    have := h.1
    simp at this
    subst this
    rfl
  | y :: t, news, h => by
    have h0 := k51_open (h.2 0 y rfl)
    have hl := h.1
    simp only [List.length_cons] at hl
    have ht : Reps (k51.K w) 3 t (news.drop 3) := by
      refine ⟨by rw [List.length_drop]; omega, fun j p hj => ?_⟩
      have := h.2 (j + 1) p (by simpa using hj)
      rw [List.drop_drop]
      rw [show (j + 1) * 3 = 3 + j * 3 by omega] at this
      exact this
    have e := reps_flat t _ ht
    rw [Nat.zero_mul, List.drop_zero] at h0
    have e2 : news = news.take 3 ++ news.drop 3 := (List.take_append_drop 3 news).symm
    rw [e2, h0, e]
    rfl
theorem run_app51 {W : World} {base : Nat} {v : Value} {xs ys : List S51} {A : Option Addr} (c : Nat) (HO : Own51 W base v xs) (HX : Kd.C k51 W A ys.length ys) (hbase : base ≤ W.heap.size) (hl : xs.length + ys.length ≤ 1048576) :
    ∃ v1 w1, (Builtin.append_ #[58, 58] 58 #[v, .slice A ys.length c]).run Tryd.prog W = .ok v1 w1 ∧ Own51 w1 base v1 (xs ++ ys) ∧ W.grownBy w1 v.ownBlock ∧ (v1.ownBlock = v.ownBlock ∨ ∃ b, v1.ownBlock = some b ∧ W.heap.size ≤ b) := by
  obtain ⟨i0, hi, hzz⟩ := Option.map_eq_some_iff.1 info51
  simp only [Prod.mk.injEq] at hzz
  obtain ⟨hz0, hz1, hz2⟩ := hzz
  rcases A with _ | ad
  · have h0 : ys.length = 0 := by
      rcases Nat.eq_zero_or_pos ys.length with h0 | h0
      · exact h0
      · obtain ⟨ad, h, _⟩ := HX.2.2 h0
        cases h
    obtain rfl : ys = [] := List.eq_nil_of_length_eq_zero h0
    refine ⟨v, W, ?_, by rw [List.append_nil]; exact HO, World.grownBy.refl W _, .inl rfl⟩
    rcases HO.2 with ⟨rfl, hn⟩ | ⟨g, cap, cur, rfl, _, _, hnc, _⟩
    · simp [Builtin.append_, run_underlying Tryd.underlying58, sizeOf, typeInfo, hi, Builtin.lenOf, Builtin.firstCells]
    · simp [Builtin.append_, run_underlying Tryd.underlying58, sizeOf, typeInfo, hi, Builtin.lenOf, Builtin.firstCells, hnc, storeCells]
  · obtain ⟨news, hnr, hnc⟩ := ReadsRow.inner_ HX
    obtain rfl := reps_flat ys news hnr
    obtain ⟨v1, w1, hrun, h2, hgr, _, hat⟩ := run_append_own_at (P := Tryd.prog) W base 58 58 51 i0 _ 3 32 Tryd.underlying58 hi hz0 hz1 hz2 rfl (by omega) v xs.length (flat51 xs) HO ad ys.length c (flat51 ys) (flat51_length ys) hnc (flat51_one ys) (by simp only [maxLen]; omega) (by omega) hbase
    refine ⟨v1, w1, hrun, ?_, hgr, hat.elim .inl (fun h => .inr ⟨_, h, Nat.le_refl _⟩)⟩
    unfold Own51
    rw [flat51_append, List.length_append]
    exact h2
section
variable {ops : Array Oper} {oi o : Oper} {rest : List Oper} {a : Act} {Q : Exit → Act → World → Prop} {K : Act → World → Prop}
theorem step_app51 {W w1 : World} {N : Option Tmp} {v u v1 : Value} (hw : Region.wanted oi (yielded ops a.tmps) = true) (hN : oi.dst = N) (s x : Operand) (ho : oi.op = .call { callee := .builtin .append, args := #[s, x], argTypes := #[58, 58] })
    (ht : oi.type = 58) (hs : a.eval s = v) (hx : a.eval x = u) (hrun : (Builtin.append_ #[58, 58] 58 #[v, u]).run Tryd.prog W = .ok v1 w1) (h : K (a.put N v1) w1) :
    if Region.wanted oi (yielded ops a.tmps) = true then Oper.wp Tryd.prog oi a W K Q else K (a.put N undef) W := by
  refine value_ hw hN ?_ h
  unfold execOp
  simp only [ho, ht, resolve, invoke, builtin, Sem.run_bind, Sem.run_pure, Result.andThen_ok, List.map_toArray, List.map_cons, List.map_nil, hs, hx, hrun]
theorem wpList_app51 {W : World} (hgd : o.guard = none) (s x : Operand) (ho : o.op = .call { callee := .builtin .append, args := #[s, x], argTypes := #[58, 58] }) (ht : o.type = 58) {base c : Nat} {v : Value} {A : Option Addr} {xs ys : List S51} (hs : a.eval s = v) (hx : a.eval x = .slice A ys.length c)
    (HO : Own51 W base v xs) (HX : Kd.C k51 W A ys.length ys) (hbase : base ≤ W.heap.size) (hl : xs.length + ys.length ≤ 1048576)
    (h : ∀ v1 w1, Own51 w1 base v1 (xs ++ ys) → W.grownBy w1 v.ownBlock → (v1.ownBlock = v.ownBlock ∨ ∃ b, v1.ownBlock = some b ∧ W.heap.size ≤ b) → wpList Tryd.prog ops Q rest (a.put o.dst v1) w1) :
    wpList Tryd.prog ops Q (o :: rest) a W := by
  obtain ⟨v1, w1, hr1, h1, hg, hat⟩ := run_app51 c HO HX hbase hl
  refine wpList_plain hgd fun K hK => ?_
  unfold Oper.wp execOp
  simp only [ho, ht, resolve, invoke, builtin, Sem.run_bind, Sem.run_pure, Result.andThen_ok, List.map_toArray, List.map_cons, List.map_nil, hs, hx, hr1]
  exact hK _ _ (h v1 w1 h1 hg hat)
end
theorem own51_of_cells {W : World} {g base : Nat} {ds : List S51} (h : W.heap[g]? = some (.cells (flat51 ds).toArray 51 (0, 0))) (hl : ds.length ≤ 1048576) (hb : base ≤ g) : Own51 W base (.slice (some ⟨g, 0, none⟩) ds.length ds.length) ds := by
  refine ⟨flat51_length ds, .inr ⟨g, ds.length, (flat51 ds).toArray, rfl, hb, h, Nat.le_refl _, by simp only [maxLen]; omega, by simpa using flat51_length ds, ?_⟩⟩
  simp [flat51_length]
  rw [← flat51_length ds, List.take_length]
theorem own51_C {W : World} {base n : Nat} {v : Value} {xs : List S51} (h : Own51 W base v xs) (hn : xs.length = n) : ∃ A c, v = .slice A n c ∧ n ≤ c ∧ Kd.C k51 W A n xs := by
  subst hn
  exact Kd.R_reads (R_of_flat h)
theorem own51_below {W W1 : World} {base : Nat} {v : Value} {xs : List S51} (h : Own51 W base v xs) (hb : Below W.heap.size W W1) : Own51 W1 base v xs := own_move h (fun q hq => hb.block q (own_lt h q hq))
/-- What the orders of a region's build and append leave. -/
structure JR (W0 : World) (base : Nat) (ds : List S51) (d : S51) (v85 v87 : Value) (W : World) : Prop where
  bel : Below W0.heap.size W0 W
  row : Own51 W base v85 ds
  fr : ∀ q, v85.ownBlock = some q → W0.heap.size ≤ q
  lit : ∃ gq, v87 = .slice (some ⟨gq, 0, none⟩) 1 1 ∧ W0.heap.size ≤ gq ∧ W.heap[gq]? = some (.cells (enc51 d).toArray 51 (0, 0)) ∧ v85.ownBlock ≠ some gq
theorem grown_below {W0 W w1 : World} {g : Option Nat} (hb : Below W0.heap.size W0 W) (hg : W.grownBy w1 g) (hf : ∀ q, g = some q → W0.heap.size ≤ q) : Below W0.heap.size W0 w1 :=
  pw_below_grown hb _ hb.size hg hf
theorem jr_one {W0 W : World} {base g81 c : Nat} {ds : List S51} {A : Option Addr} (hW : Below W0.heap.size W0 W) (hbase : base ≤ W0.heap.size) (h81 : W.heap[g81]? = some (.cells #[] 51 (0, 0))) (hg : W0.heap.size ≤ g81) (HX : Kd.C k51 W A ds.length ds) (hl : ds.length ≤ 1048575) :
    ∃ v1 w1, (Builtin.append_ #[58, 58] 58 #[.slice (some ⟨g81, 0, none⟩) 0 0, .slice A ds.length c]).run Tryd.prog W = .ok v1 w1 ∧ Own51 w1 base v1 ds ∧ Below W0.heap.size W0 w1 ∧ (∀ q, v1.ownBlock = some q → W0.heap.size ≤ q) ∧
      (∀ p, p < W.heap.size → p ≠ g81 → w1.heap[p]? = W.heap[p]? ∧ v1.ownBlock ≠ some p) ∧ W.heap.size ≤ w1.heap.size := by
  have HO : Own51 W base (.slice (some ⟨g81, 0, none⟩) 0 0) [] := own51_of_cells (ds := []) (by simpa [flat51] using h81) (by simp) (Nat.le_trans hbase hg)
  obtain ⟨v1, w1, hrun, hrow, hgr, hat⟩ := run_app51 c HO HX (Nat.le_trans hbase hW.size) (by simp; omega)
  rw [List.nil_append] at hrow
  have hv : ∀ q, v1.ownBlock = some q → q = g81 ∨ W.heap.size ≤ q := fun q hq => by
    rcases hat with hat | ⟨b, hb, hle⟩
    · rw [hat] at hq
      simp [Value.ownBlock] at hq
      exact .inl hq.symm
    · rw [hq] at hb
      cases hb
      exact .inr hle
  have hsz := hW.size
  have hg81 := blk_lt h81
  exact ⟨v1, w1, hrun, hrow, grown_below hW hgr (fun q hq => by simp [Value.ownBlock] at hq; omega), fun q hq => (hv q hq).elim (fun e => by omega) (fun e => by omega),
    fun p hp hne => ⟨hgr.block p hp (fun e => hne (by simp [Value.ownBlock] at e; exact e)), fun e => (hv p e).elim hne (fun e => by omega)⟩, hgr.size⟩
theorem jr_early {W0 W w1 : World} {base g81 gq : Nat} {ds : List S51} {d : S51} {v1 : Value} (hrow : Own51 w1 base v1 ds) (hbel : Below W0.heap.size W0 w1) (hfr : ∀ q, v1.ownBlock = some q → W0.heap.size ≤ q)
    (hkeep : ∀ p, p < W.heap.size → p ≠ g81 → w1.heap[p]? = W.heap[p]? ∧ v1.ownBlock ≠ some p) (hq : W.heap[gq]? = some (.cells (enc51 d).toArray 51 (0, 0))) (hle : W0.heap.size ≤ gq) (hne : gq ≠ g81) :
    JR W0 base ds d v1 (.slice (some ⟨gq, 0, none⟩) 1 1) w1 := by
  obtain ⟨h1, h2⟩ := hkeep gq (blk_lt hq) hne
  exact ⟨hbel, hrow, hfr, gq, rfl, hle, h1.trans hq, h2⟩
theorem jr_late {W0 w1 : World} {base : Nat} {ds : List S51} {d : S51} {v1 : Value} (hrow : Own51 w1 base v1 ds) (hbel : Below W0.heap.size W0 w1) (hfr : ∀ q, v1.ownBlock = some q → W0.heap.size ≤ q) :
    JR W0 base ds d v1 (.slice (some ⟨w1.heap.size, 0, none⟩) 1 1) (w1.alloc (.cells (enc51 d).toArray 51)) :=
  ⟨below_alloc hbel _, own51_below hrow (below_alloc (Below.refl _ _) _), hfr, w1.heap.size, rfl, hbel.size, heap_alloc_new w1 _, fun e => by have := own_lt hrow _ e; omega⟩
/-- The second append: the row with d behind it. -/
theorem jr_two {W0 W : World} {base : Nat} {ds : List S51} {d : S51} {v85 v87 : Value} (h : JR W0 base ds d v85 v87 W) (hbase : base ≤ W0.heap.size) (hl : ds.length ≤ 1048575) :
    ∃ v88 w2, (Builtin.append_ #[58, 58] 58 #[v85, v87]).run Tryd.prog W = .ok v88 w2 ∧ Own51 w2 base v88 (ds ++ [d]) ∧ Below W0.heap.size W0 w2 ∧ (∀ q, v88.ownBlock = some q → W0.heap.size ≤ q) := by
  obtain ⟨gq, rfl, h1, h2, h3⟩ := h.lit
  have HX := own51_of_cells (base := 0) (ds := [d]) (by simpa [flat51] using h2) (by simp) (Nat.zero_le _)
  obtain ⟨A, c, e, _, hC⟩ := own51_C HX rfl
  cases e
  obtain ⟨v1, w1, hrun, hrow, hgr, hat⟩ := run_app51 1 h.row hC (Nat.le_trans hbase h.bel.size) (by simp; omega)
  have hsz := h.bel.size
  exact ⟨v1, w1, hrun, hrow, grown_below h.bel hgr h.fr, fun q hq => by
    rcases hat with hat | ⟨b, hb, hle⟩
    · exact h.fr q (hat ▸ hq)
    · rw [hq] at hb
      cases hb
      omega⟩
/-- The third append: what stands behind. -/
theorem jr_three {W0 W : World} {base c : Nat} {xs ys : List S51} {v : Value} {A : Option Addr} (hrow : Own51 W base v xs) (hbel : Below W0.heap.size W0 W) (hfr : ∀ q, v.ownBlock = some q → W0.heap.size ≤ q) (HX : Kd.C k51 W0 A ys.length ys) (hbase : base ≤ W0.heap.size) (hl : xs.length + ys.length ≤ 1048576) :
    ∃ v88 w2, (Builtin.append_ #[58, 58] 58 #[v, .slice A ys.length c]).run Tryd.prog W = .ok v88 w2 ∧ Own51 w2 base v88 (xs ++ ys) ∧ Below W0.heap.size W0 w2 := by
  obtain ⟨v1, w1, hrun, hrow, hgr, hat⟩ := run_app51 c hrow (Kd.C_below HX hbel) (Nat.le_trans hbase hbel.size) hl
  exact ⟨v1, w1, hrun, hrow, grown_below hbel hgr hfr⟩
theorem C_drop51 {w : World} {A : Option Addr} {xs : List S51} {m c : Nat} (h : Kd.C k51 w A xs.length xs) (hm : m ≤ xs.length) (hc : xs.length ≤ c) :
    Kd.C k51 w (if c = m then A else A.map (·.add (m * 3))) (xs.drop m).length (xs.drop m) := by
  have hl : (xs.drop m).length = xs.length - m := List.length_drop
  refine ⟨rfl, by rw [hl]; have := h.2.1; omega, fun hp => ?_⟩
  obtain ⟨ad, rfl, hc2⟩ := h.2.2 (by omega)
  rw [if_neg (by omega)]
  refine ⟨ad.add (m * 3), rfl, fun j p hj => ?_⟩
  rw [List.getElem?_drop] at hj
  obtain ⟨cs, h1, h2, h3⟩ := hc2 (m + j) p hj
  refine ⟨cs, h1, h2, fun i u hu => ?_⟩
  have := h3 i u hu
  have e : (ad.add (m * 3)).add (j * k51.sz + i) = ad.add ((m + j) * k51.sz + i) := by
    have hs : k51.sz = 3 := rfl
    rw [Go.Addr.add_add, hs, Nat.add_mul, Nat.add_assoc]
  rw [e]
  exact this
end Go.Proofs.YtpkdfjlkhfjlcaaDoor.MVal
