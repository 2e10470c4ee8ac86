import Derived.Test.YtfabnapjbgamaaaRelV
import Derived.Test.YtfabnapjbgamaaaRelD
namespace Go.Proofs.Ytfabnapjbgamaaa.MRelTrue
open Go.RowKit Go.Lib Go.Proofs.YtfabnapjbgamaaaW.PrintWords Go.Proofs.YtfabnapjbgamaaaW.PrintLast Go.Proofs.YtfabnapjbgamaaaW.PrintMore
set_option linter.unusedVariables false
set_option linter.unusedSimpArgs false
/-! ### broadsideref1.Make: words -/
abbrev Own23 (w : World) (base : Nat) (v : Value) (xs : List S23) : Prop := w.ownsRow base 23 5 v xs.length (flat23 xs)
theorem reps_flat {w : World} : ∀ (ys : List S23) (news : List Value), Reps (k23.K w) 5 ys news → news = flat23 ys
  | [], news, h => by
    have := h.1
    simp at this
    subst this
    rfl
  | y :: t, news, h => by
    have h0 := k23_open (h.2 0 y rfl)
    have hl := h.1
    simp only [List.length_cons] at hl
    have ht : Reps (k23.K w) 5 t (news.drop 5) := by
      refine ⟨by rw [List.length_drop]; omega, fun j p hj => ?_⟩
      have := h.2 (j + 1) p (by simpa using hj)
      rw [List.drop_drop]
      rw [show (j + 1) * 5 = 5 + j * 5 by omega] at this
      exact this
    have e := reps_flat t _ ht
    rw [Nat.zero_mul, List.drop_zero] at h0
    have e2 : news = news.take 5 ++ news.drop 5 := (List.take_append_drop 5 news).symm
    rw [e2, h0, e]
    rfl
theorem run_app23 {W : World} {base : Nat} {v : Value} {xs ys : List S23} {A : Option Addr} (c : Nat) (HO : Own23 W base v xs) (HX : Kd.C k23 W A ys.length ys) (hbase : base ≤ W.heap.size) (hl : xs.length + ys.length ≤ 1048576) :
    ∃ v1 w1, (Builtin.append_ #[25, 25] 25 #[v, .slice A ys.length c]).run Try.prog W = .ok v1 w1 ∧ Own23 w1 base v1 (xs ++ ys) ∧ W.grownBy w1 v.ownBlock ∧ (v1.ownBlock = v.ownBlock ∨ ∃ b, v1.ownBlock = some b ∧ W.heap.size ≤ b) := by
  obtain ⟨i0, hi, hzz⟩ := Option.map_eq_some_iff.1 info23
  simp only [Prod.mk.injEq] at hzz
  obtain ⟨hz0, hz1, hz2⟩ := hzz
  rcases A with _ | ad
  · have h0 : ys.length = 0 := by
      rcases Nat.eq_zero_or_pos ys.length with h0 | h0
      · exact h0
      · obtain ⟨ad, h, _⟩ := HX.2.2 h0
        cases h
    obtain rfl : ys = [] := List.eq_nil_of_length_eq_zero h0
    refine ⟨v, W, ?_, by rw [List.append_nil]; exact HO, World.grownBy.refl W _, .inl rfl⟩
    rcases HO.2 with ⟨rfl, hn⟩ | ⟨g, cap, cur, rfl, _, _, hnc, _⟩
    · simp [Builtin.append_, run_underlying Try.underlying25, sizeOf, typeInfo, hi, Builtin.lenOf, Builtin.firstCells]
    · simp [Builtin.append_, run_underlying Try.underlying25, sizeOf, typeInfo, hi, Builtin.lenOf, Builtin.firstCells, hnc, storeCells]
  · obtain ⟨news, hnr, hnc⟩ := ReadsRow.inner_ HX
    obtain rfl := reps_flat ys news hnr
    obtain ⟨v1, w1, hrun, h2, hgr, _, hat⟩ := run_append_own_at (P := Try.prog) W base 25 25 23 i0 _ 5 56 Try.underlying25 hi hz0 hz1 hz2 rfl (by omega) v xs.length (flat23 xs) HO ad ys.length c (flat23 ys) (flat23_length ys) hnc (flat23_one ys) (by simp only [maxLen]; omega) (by omega) hbase
    refine ⟨v1, w1, hrun, ?_, hgr, hat.elim .inl (fun h => .inr ⟨_, h, Nat.le_refl _⟩)⟩
    unfold Own23
    rw [flat23_append, List.length_append]
    exact h2
section
variable {ops : Array Oper} {oi o : Oper} {rest : List Oper} {a : Act} {Q : Exit → Act → World → Prop} {K : Act → World → Prop}
theorem step_app23 {W w1 : World} {N : Option Tmp} {v u v1 : Value} (hw : Region.wanted oi (yielded ops a.tmps) = true) (hN : oi.dst = N) (s x : Operand) (ho : oi.op = .call { callee := .builtin .append, args := #[s, x], argTypes := #[25, 25] })
    (ht : oi.type = 25) (hs : a.eval s = v) (hx : a.eval x = u) (hrun : (Builtin.append_ #[25, 25] 25 #[v, u]).run Try.prog W = .ok v1 w1) (h : K (a.put N v1) w1) :
    if Region.wanted oi (yielded ops a.tmps) = true then Oper.wp Try.prog oi a W K Q else K (a.put N undef) W := by
  refine value_ hw hN ?_ h
  unfold execOp
  simp only [ho, ht, resolve, invoke, builtin, Sem.run_bind, Sem.run_pure, Result.andThen_ok, List.map_toArray, List.map_cons, List.map_nil, hs, hx, hrun]
theorem wpList_app23 {W : World} (hgd : o.guard = none) (s x : Operand) (ho : o.op = .call { callee := .builtin .append, args := #[s, x], argTypes := #[25, 25] }) (ht : o.type = 25) {base c : Nat} {v : Value} {A : Option Addr} {xs ys : List S23} (hs : a.eval s = v) (hx : a.eval x = .slice A ys.length c)
    (HO : Own23 W base v xs) (HX : Kd.C k23 W A ys.length ys) (hbase : base ≤ W.heap.size) (hl : xs.length + ys.length ≤ 1048576)
    (h : ∀ v1 w1, Own23 w1 base v1 (xs ++ ys) → W.grownBy w1 v.ownBlock → (v1.ownBlock = v.ownBlock ∨ ∃ b, v1.ownBlock = some b ∧ W.heap.size ≤ b) → wpList Try.prog ops Q rest (a.put o.dst v1) w1) :
    wpList Try.prog ops Q (o :: rest) a W := by
  obtain ⟨v1, w1, hr1, h1, hg, hat⟩ := run_app23 c HO HX hbase hl
  refine wpList_plain hgd fun K hK => ?_
  unfold Oper.wp execOp
  simp only [ho, ht, resolve, invoke, builtin, Sem.run_bind, Sem.run_pure, Result.andThen_ok, List.map_toArray, List.map_cons, List.map_nil, hs, hx, hr1]
  exact hK _ _ (h v1 w1 h1 hg hat)
end
theorem own23_of_cells {W : World} {g base : Nat} {ds : List S23} (h : W.heap[g]? = some (.cells (flat23 ds).toArray 23 (0, 0))) (hl : ds.length ≤ 1048576) (hb : base ≤ g) : Own23 W base (.slice (some ⟨g, 0, none⟩) ds.length ds.length) ds := by
  refine ⟨flat23_length ds, .inr ⟨g, ds.length, (flat23 ds).toArray, rfl, hb, h, Nat.le_refl _, by simp only [maxLen]; omega, by simpa using flat23_length ds, ?_⟩⟩
  simp [flat23_length]
  rw [← flat23_length ds, List.take_length]
theorem own23_C {W : World} {base n : Nat} {v : Value} {xs : List S23} (h : Own23 W base v xs) (hn : xs.length = n) : ∃ A c, v = .slice A n c ∧ n ≤ c ∧ Kd.C k23 W A n xs := by
  subst hn
  exact Kd.R_reads (R_of_flat h)
theorem own23_below {W W1 : World} {base : Nat} {v : Value} {xs : List S23} (h : Own23 W base v xs) (hb : Below W.heap.size W W1) : Own23 W1 base v xs := own_move h (fun q hq => hb.block q (own_lt h q hq))
/-- What the orders of a region's build and append leave. -/
structure JR (W0 : World) (base : Nat) (ds : List S23) (d : S23) (v85 v87 : Value) (W : World) : Prop where
  bel : Below W0.heap.size W0 W
  row : Own23 W base v85 ds
  fr : ∀ q, v85.ownBlock = some q → W0.heap.size ≤ q
  lit : ∃ gq, v87 = .slice (some ⟨gq, 0, none⟩) 1 1 ∧ W0.heap.size ≤ gq ∧ W.heap[gq]? = some (.cells (enc23 d).toArray 23 (0, 0)) ∧ v85.ownBlock ≠ some gq
theorem grown_below {W0 W w1 : World} {g : Option Nat} (hb : Below W0.heap.size W0 W) (hg : W.grownBy w1 g) (hf : ∀ q, g = some q → W0.heap.size ≤ q) : Below W0.heap.size W0 w1 :=
  pw_below_grown hb _ hb.size hg hf
theorem jr_one {W0 W : World} {base g81 c : Nat} {ds : List S23} {A : Option Addr} (hW : Below W0.heap.size W0 W) (hbase : base ≤ W0.heap.size) (h81 : W.heap[g81]? = some (.cells #[] 23 (0, 0))) (hg : W0.heap.size ≤ g81) (HX : Kd.C k23 W A ds.length ds) (hl : ds.length ≤ 1048575) :
    ∃ v1 w1, (Builtin.append_ #[25, 25] 25 #[.slice (some ⟨g81, 0, none⟩) 0 0, .slice A ds.length c]).run Try.prog W = .ok v1 w1 ∧ Own23 w1 base v1 ds ∧ Below W0.heap.size W0 w1 ∧ (∀ q, v1.ownBlock = some q → W0.heap.size ≤ q) ∧
      (∀ p, p < W.heap.size → p ≠ g81 → w1.heap[p]? = W.heap[p]? ∧ v1.ownBlock ≠ some p) ∧ W.heap.size ≤ w1.heap.size := by
  have HO : Own23 W base (.slice (some ⟨g81, 0, none⟩) 0 0) [] := own23_of_cells (ds := []) (by simpa [flat23] using h81) (by simp) (Nat.le_trans hbase hg)
  obtain ⟨v1, w1, hrun, hrow, hgr, hat⟩ := run_app23 c HO HX (Nat.le_trans hbase hW.size) (by simp; omega)
  rw [List.nil_append] at hrow
  have hv : ∀ q, v1.ownBlock = some q → q = g81 ∨ W.heap.size ≤ q := fun q hq => by
    rcases hat with hat | ⟨b, hb, hle⟩
    · rw [hat] at hq
      simp [Value.ownBlock] at hq
      exact .inl hq.symm
    · rw [hq] at hb
      cases hb
      exact .inr hle
  have hsz := hW.size
  have hg81 := blk_lt h81
  exact ⟨v1, w1, hrun, hrow, grown_below hW hgr (fun q hq => by simp [Value.ownBlock] at hq; omega), fun q hq => (hv q hq).elim (fun e => by omega) (fun e => by omega),
    fun p hp hne => ⟨hgr.block p hp (fun e => hne (by simp [Value.ownBlock] at e; exact e)), fun e => (hv p e).elim hne (fun e => by omega)⟩, hgr.size⟩
theorem jr_early {W0 W w1 : World} {base g81 gq : Nat} {ds : List S23} {d : S23} {v1 : Value} (hrow : Own23 w1 base v1 ds) (hbel : Below W0.heap.size W0 w1) (hfr : ∀ q, v1.ownBlock = some q → W0.heap.size ≤ q)
    (hkeep : ∀ p, p < W.heap.size → p ≠ g81 → w1.heap[p]? = W.heap[p]? ∧ v1.ownBlock ≠ some p) (hq : W.heap[gq]? = some (.cells (enc23 d).toArray 23 (0, 0))) (hle : W0.heap.size ≤ gq) (hne : gq ≠ g81) :
    JR W0 base ds d v1 (.slice (some ⟨gq, 0, none⟩) 1 1) w1 := by
  obtain ⟨h1, h2⟩ := hkeep gq (blk_lt hq) hne
  exact ⟨hbel, hrow, hfr, gq, rfl, hle, h1.trans hq, h2⟩
theorem jr_late {W0 w1 : World} {base : Nat} {ds : List S23} {d : S23} {v1 : Value} (hrow : Own23 w1 base v1 ds) (hbel : Below W0.heap.size W0 w1) (hfr : ∀ q, v1.ownBlock = some q → W0.heap.size ≤ q) :
    JR W0 base ds d v1 (.slice (some ⟨w1.heap.size, 0, none⟩) 1 1) (w1.alloc (.cells (enc23 d).toArray 23)) :=
  ⟨below_alloc hbel _, own23_below hrow (below_alloc (Below.refl _ _) _), hfr, w1.heap.size, rfl, hbel.size, heap_alloc_new w1 _, fun e => by have := own_lt hrow _ e; omega⟩
/-- The second append: the row with d behind it. -/
theorem jr_two {W0 W : World} {base : Nat} {ds : List S23} {d : S23} {v85 v87 : Value} (h : JR W0 base ds d v85 v87 W) (hbase : base ≤ W0.heap.size) (hl : ds.length ≤ 1048575) :
    ∃ v88 w2, (Builtin.append_ #[25, 25] 25 #[v85, v87]).run Try.prog W = .ok v88 w2 ∧ Own23 w2 base v88 (ds ++ [d]) ∧ Below W0.heap.size W0 w2 ∧ (∀ q, v88.ownBlock = some q → W0.heap.size ≤ q) := by
  obtain ⟨gq, rfl, h1, h2, h3⟩ := h.lit
  have HX := own23_of_cells (base := 0) (ds := [d]) (by simpa [flat23] using h2) (by simp) (Nat.zero_le _)
  obtain ⟨A, c, e, _, hC⟩ := own23_C HX rfl
  cases e
  obtain ⟨v1, w1, hrun, hrow, hgr, hat⟩ := run_app23 1 h.row hC (Nat.le_trans hbase h.bel.size) (by simp; omega)
  have hsz := h.bel.size
  exact ⟨v1, w1, hrun, hrow, grown_below h.bel hgr h.fr, fun q hq => by
    rcases hat with hat | ⟨b, hb, hle⟩
    · exact h.fr q (hat ▸ hq)
    · rw [hq] at hb
      cases hb
      omega⟩
/-- The third append: what stands behind. -/
theorem jr_three {W0 W : World} {base c : Nat} {xs ys : List S23} {v : Value} {A : Option Addr} (hrow : Own23 W base v xs) (hbel : Below W0.heap.size W0 W) (hfr : ∀ q, v.ownBlock = some q → W0.heap.size ≤ q) (HX : Kd.C k23 W0 A ys.length ys) (hbase : base ≤ W0.heap.size) (hl : xs.length + ys.length ≤ 1048576) :
    ∃ v88 w2, (Builtin.append_ #[25, 25] 25 #[v, .slice A ys.length c]).run Try.prog W = .ok v88 w2 ∧ Own23 w2 base v88 (xs ++ ys) ∧ Below W0.heap.size W0 w2 := by
  obtain ⟨v1, w1, hrun, hrow, hgr, hat⟩ := run_app23 c hrow (Kd.C_below HX hbel) (Nat.le_trans hbase hbel.size) hl
  exact ⟨v1, w1, hrun, hrow, grown_below hbel hgr hfr⟩
/-! ### what Make computes -/
def wlen (out : List S23) (s : ByteArray) : Nat := (out.takeWhile (fun x => Op.bytesLess x.f0.toList s.toList)).length
theorem wlen_le (out : List S23) (s : ByteArray) : wlen out s ≤ out.length := (List.takeWhile_sublist _).length_le
theorem wlen_step : ∀ (out : List S23) (s : ByteArray) (n : Nat), n ≤ wlen out s → n < out.length → Op.bytesLess (out.getD n z23).f0.toList s.toList = true → n + 1 ≤ wlen out s
  | [], s, n, h, h1, h2 => by simp at h1
  | x :: t, s, n, h, h1, h2 => by
    unfold wlen at h ⊢
    rw [List.takeWhile_cons] at h ⊢
    cases n with
    | zero =>
      have h2' : Op.bytesLess x.f0.toList s.toList = true := h2
      rw [h2']
      simp
    | succ n =>
      cases hx : Op.bytesLess x.f0.toList s.toList with
      | false => rw [hx] at h; simp at h
      | true =>
        rw [hx] at h
        simp only [if_true, List.length_cons] at h ⊢
        have := wlen_step t s n (by unfold wlen; omega) (by simpa using h1) h2
        unfold wlen at this
        omega
theorem wlen_stop : ∀ (out : List S23) (s : ByteArray) (n : Nat), n ≤ wlen out s → n < out.length → Op.bytesLess (out.getD n z23).f0.toList s.toList = false → n = wlen out s
  | [], s, n, h, h1, h2 => by simp at h1
  | x :: t, s, n, h, h1, h2 => by
    unfold wlen at h ⊢
    rw [List.takeWhile_cons] at h ⊢
    cases n with
    | zero =>
      have h2' : Op.bytesLess x.f0.toList s.toList = false := h2
      rw [h2']
      simp
    | succ n =>
      cases hx : Op.bytesLess x.f0.toList s.toList with
      | false => rw [hx] at h; simp at h
      | true =>
        rw [hx] at h
        simp only [if_true, List.length_cons] at h ⊢
        have := wlen_stop t s n (by unfold wlen; omega) (by simpa using h1) h2
        unfold wlen at this
        omega
def ref_Make.hit (out : List S23) (c : S23) : Bool := decide (wlen out c.f0 < out.length) && ((out.getD (wlen out c.f0) z23).f0.toList == c.f0.toList)
def ref_Make.l : List S23 → List S23 → Option (List S23 × Bool)
  | out, [] => some (out, true)
  | out, c :: t => if ref_Make.hit out c = true then
      (ref_Both.f (out.getD (wlen out c.f0) z23).f0 (out.getD (wlen out c.f0) z23).f1 (out.getD (wlen out c.f0) z23).f2 (out.getD (wlen out c.f0) z23).f3 (out.getD (wlen out c.f0) z23).f4 c.f0 c.f1 c.f2 c.f3 c.f4).bind fun r =>
        if r.2.2.2.2.2 = true then ref_Make.l (out.set (wlen out c.f0) ⟨r.1, r.2.1, r.2.2.1, r.2.2.2.1, r.2.2.2.2.1⟩) t else some ([], false)
    else ref_Make.l (out.take (wlen out c.f0) ++ [c] ++ out.drop (wlen out c.f0)) t

theorem take_len_le {α : Type} (l : List α) (n : Nat) (h : n ≤ l.length) : (l.take n).length = n := by rw [List.length_take]; omega
theorem ref_get_C {W : World} {A : Option Addr} {n : Nat} {xs : List S23} (h : Kd.C k23 W A xs.length xs) (hn : n < xs.length) (hm : n ≤ 1000000) :
    ∃ ad, A = some ad ∧ W.cell? (ad.add (n * 5)) = some (.string (xs.getD n z23).f0) := by
  obtain ⟨ad, rfl, x0, _⟩ := at_T23 h (n : Int) (by omega) (by omega)
  refine ⟨ad, rfl, ?_⟩
  simp only [Int.toNat_natCast] at x0
  have Y0 : rd_T23 xs (n : Int) = xs.getD n z23 := by unfold rd_T23; rw [Int.toNat_natCast]
  rw [Y0] at x0
  exact x0
theorem C_drop23 {w : World} {A : Option Addr} {xs : List S23} {m c : Nat} (h : Kd.C k23 w A xs.length xs) (hm : m ≤ xs.length) (hc : xs.length ≤ c) :
    Kd.C k23 w (if c = m then A else A.map (·.add (m * 5))) (xs.drop m).length (xs.drop m) := by
  have hl : (xs.drop m).length = xs.length - m := List.length_drop
  refine ⟨rfl, by rw [hl]; have := h.2.1; omega, fun hp => ?_⟩
  obtain ⟨ad, rfl, hc2⟩ := h.2.2 (by omega)
  rw [if_neg (by omega)]
  refine ⟨ad.add (m * 5), rfl, fun j p hj => ?_⟩
  rw [List.getElem?_drop] at hj
  obtain ⟨cs, h1, h2, h3⟩ := hc2 (m + j) p hj
  refine ⟨cs, h1, h2, fun i u hu => ?_⟩
  have := h3 i u hu
  have e : (ad.add (m * 5)).add (j * k23.sz + i) = ad.add ((m + j) * k23.sz + i) := by
    have hs : k23.sz = 5 := rfl
    rw [Go.Addr.add_add, hs, Nat.add_mul, Nat.add_assoc]
  rw [e]
  exact this

set_option maxHeartbeats 8000000 in
set_option maxRecDepth 1000000 in
theorem ref_Make.run (A : Option Addr) (cc : Nat) (l : List S23) (r : List S23 × Bool) (w : World) (hr : Kd.C k23 w A l.length l) (hl : l.length ≤ 1000000) (h : ref_Make.l [] l = some r) :
    Calls Try.prog 25 #[.slice A l.length cc] w fun e w' => ∃ v, e = .returned (.tuple #[v, .bool r.2]) ∧ Own23 w' w.heap.size v r.1 ∧ Below w.heap.size w w' := by
  have hu23 := Try.underlying23
  have hu25 := Try.underlying25
  have HR := Aside0.mk hr
  have H2 := Aside0.mk h
  have hown0 : Aside0 (Own23 w w.heap.size (.slice none 0 0) []) := ⟨own_nil _ _ _ _⟩
  clear hr h
  go_enter Try.func25, Try.ntmps25
  go_wp2
  go_loopw [4, 12] (fun s4 s12 wr => ∃ (i : Nat) (out : List S23), i ≤ l.length ∧ s12 = .int .i64 i ∧ Aside0 (Own23 wr w.heap.size s4 out) ∧ out.length ≤ i ∧ Aside0 (ref_Make.l out (l.drop i) = some r) ∧ Aside0 (Below w.heap.size w wr)) (fun _ s12 _ => l.length - (intOf s12).toNat)
  case atStart => exact ⟨0, [], Nat.zero_le _, rfl, hown0, Nat.zero_le _, H2, ⟨Below.refl _ _⟩⟩
  case round =>
    clear hown0 H2
    obtain ⟨i, out, hi, rfl, O, hlen, I, S1⟩ := hrel
    obtain ⟨wo, rfl⟩ : ∃ wo : World, wo = wr := ⟨_, rfl⟩
    have hbs := S1.out.size
    by_cases hlt : i < l.length
    · have hC1 := Kd.C_below HR.out S1.out
      obtain ⟨ad, rfl, x0, x1, x2, x3, x4⟩ := at_T23 hC1 (i : Int) (by omega) (by omega)
      simp only [Int.toNat_natCast] at x0 x1 x2 x3 x4
      have Y0 : rd_T23 l (i : Int) = l.getD i z23 := by unfold rd_T23; rw [Int.toNat_natCast]
      rw [Y0] at x0 x1 x2 x3 x4
      have hI := I.out
      rw [drop_get l i hlt, ref_Make.l] at hI
      clear Y0 hC1 I
      generalize hy : l.getD i z23 = y at x0 x1 x2 x3 x4 hI
      clear hy
      have HI := Aside0.mk hI
      clear hI
      obtain ⟨Av, cv, rfl, hcv, hCv⟩ := own23_C O.out rfl
      have HCV := Aside0.mk hCv
      clear hCv
      go_upto_region 5 with (fail)
      obtain ⟨W, hW⟩ : ∃ W, W = wo.alloc (.cells #[.string y.f0, .int .i64 y.f1, .int .i64 y.f2, .int .i64 y.f3, .string y.f4] 23) := ⟨_, rfl⟩
      rw [← hW]
      have hnew : Aside0 (W.heap[wo.heap.size]? = some (.cells (enc23 y).toArray 23 (0, 0))) := ⟨by rw [hW]; exact heap_alloc_new wo _⟩
      have hbal : Aside0 (Below wo.heap.size wo W) := ⟨by rw [hW]; exact below_alloc (Below.refl _ _) _⟩
      clear hW
      go_wp2
      have hC2 := Aside0.mk (Kd.C_below HCV.out hbal.out)
      have hb0 : Aside0 (Below W.heap.size W W) := ⟨Below.refl _ _⟩
      go_loopw [7] (fun s7 w2 => ∃ n : Nat, n ≤ wlen out y.f0 ∧ s7 = .int .i64 n ∧ Aside0 (Below W.heap.size W w2)) (fun s7 _ => out.length - (intOf s7).toNat)
      case atStart => exact ⟨0, Nat.zero_le _, rfl, hb0⟩
      case round =>
        clear hb0
        obtain ⟨n, hn, rfl, S2⟩ := hrel
        have hwl := wlen_le out y.f0
        have y0 : wr.cell? ⟨wo.heap.size, 0, none⟩ = some (.string y.f0) := pw_cell_below S2.out ((blk_cell hnew.out 0).trans rfl)
        by_cases hno : n < out.length
        · obtain ⟨ado, rfl, c0⟩ := ref_get_C (Kd.C_below hC2.out S2.out) hno (by omega)
          generalize hz : out.getD n z23 = z at c0
          have hd : decide ((n : Int) < (out.length : Int)) = true := by simp; omega
          cases hb : Op.bytesLess z.f0.toList y.f0.toList with
          | true =>
            have hn2 := wlen_step out y.f0 n hn hno (by rw [hz]; exact hb)
            go_upto_region 6 with (fail)
            refine start_ (n := 14) (S := fun w' => w'.cell? (ado.add (n * 5)) = some (.string z.f0) ∧ w'.cell? ⟨wo.heap.size, 0, none⟩ = some (.string y.f0)) (ds := []) #[false, false, false, false, false, false, false, false, false, false, false, false, false, false] (by kernel_rfl) rfl rfl ⟨c0, y0⟩ (fun hHeld => ?_)
            refine pure_ (i := 0) (N := (some 16)) (v := ?_) (a' := ?_) #[true, false, false, false, false, false, false, false, false, false, false, false, false, false] rfl rfl (by kernel_rfl) (fun _ _ _ h => h) (Or.inl ⟨by rfl, ?_⟩) ?_ ?_
            rotate_left
            · intro w'
              go_simp
              with_reducible rfl
            rotate_left
            · simp only [Act.put, List.setIfInBounds_toArray, List.set_cons_zero, List.set_cons_succ, i64_w, i32_w]
              rfl
            refine pure_ (i := 1) (N := (some 17)) (v := ?_) (a' := ?_) #[true, true, false, false, false, false, false, false, false, false, false, false, false, false] rfl rfl (by kernel_rfl) (fun _ _ _ h => h) (Or.inl ⟨by rfl, ?_⟩) ?_ ?_
            rotate_left
            · intro w'
              go_simp
              with_reducible rfl
            rotate_left
            · simp only [Act.put, List.setIfInBounds_toArray, List.set_cons_zero, List.set_cons_succ, i64_w, i32_w]
              rfl
            refine pure_ (i := 2) (N := (some 18)) (v := ?_) (a' := ?_) #[true, true, true, false, false, false, false, false, false, false, false, false, false, false] rfl rfl (by kernel_rfl) (fun _ _ _ h => h) (Or.inl ⟨by rfl, ?_⟩) ?_ ?_
            rotate_left
            · intro w'
              go_simp
              with_reducible rfl
            rotate_left
            · simp only [Act.put, List.setIfInBounds_toArray, List.set_cons_zero, List.set_cons_succ, i64_w, i32_w]
              rfl
            refine pure_ (i := 3) (N := (some 19)) (v := ?_) (a' := ?_) #[true, true, true, true, false, false, false, false, false, false, false, false, false, false] rfl rfl (by kernel_rfl) (fun _ _ _ h => h) (Or.inl ⟨by rfl, ?_⟩) ?_ ?_
            rotate_left
            · intro w'
              go_simp
              with_reducible rfl
            rotate_left
            · simp only [Act.put, List.setIfInBounds_toArray, List.set_cons_zero, List.set_cons_succ, i64_w, i32_w]
              rfl
            refine pure_ (i := 4) (N := (some 20)) (v := ?_) (a' := ?_) #[true, true, true, true, true, false, false, false, false, false, false, false, false, false] rfl rfl (by kernel_rfl) (fun _ _ _ h => h) (Or.inl ⟨by rfl, ?_⟩) ?_ ?_
            rotate_left
            · intro w'
              go_simp
              with_reducible rfl
            rotate_left
            · simp only [Act.put, List.setIfInBounds_toArray, List.set_cons_zero, List.set_cons_succ, i64_w, i32_w]
              rfl
            refine pure_ (i := 5) (N := (some 21)) (v := ?_) (a' := ?_) #[true, true, true, true, true, true, false, false, false, false, false, false, false, false] rfl rfl (by kernel_rfl) (fun _ _ _ h => h) (Or.inl ⟨by rfl, ?_⟩) ?_ ?_
            rotate_left
            · intro w'
              go_simp
              with_reducible rfl
            rotate_left
            · simp only [Act.put, List.setIfInBounds_toArray, List.set_cons_zero, List.set_cons_succ, i64_w, i32_w]
              rfl
            refine pure_ (i := 6) (N := (some 22)) (v := ?_) (a' := ?_) #[true, true, true, true, true, true, true, false, false, false, false, false, false, false] rfl rfl (by kernel_rfl) (fun _ _ _ h => h) (Or.inl ⟨by rfl, ?_⟩) ?_ ?_
            rotate_left
            · intro w'
              go_simp
              with_reducible rfl
            rotate_left
            · simp only [Act.put, List.setIfInBounds_toArray, List.set_cons_zero, List.set_cons_succ, i64_w, i32_w]
              rfl
            refine pure_ (i := 7) (N := (some 23)) (v := ?_) (a' := ?_) #[true, true, true, true, true, true, true, true, false, false, false, false, false, false] rfl rfl (by kernel_rfl) (fun _ _ _ h => h) (Or.inl ⟨by rfl, ?_⟩) ?_ ?_
            rotate_left
            · intro w'
              go_simp
              with_reducible rfl
            rotate_left
            · simp only [Act.put, List.setIfInBounds_toArray, List.set_cons_zero, List.set_cons_succ, i64_w, i32_w]
              rfl
            refine pure_ (i := 8) (N := (some 24)) (v := ?_) (a' := ?_) #[true, true, true, true, true, true, true, true, true, false, false, false, false, false] rfl rfl (by kernel_rfl) (fun _ _ _ h => h) (Or.inl ⟨by rfl, ?_⟩) ?_ ?_
            rotate_left
            · intro w'
              go_simp
              with_reducible rfl
            rotate_left
            · simp only [Act.put, List.setIfInBounds_toArray, List.set_cons_zero, List.set_cons_succ, i64_w, i32_w]
              rfl
            refine take_ (i := 9) (N := (some 25)) (v := ?_) (a' := ?_) #[true, true, true, true, true, true, true, true, true, true, false, false, false, false] rfl rfl (by kernel_rfl) (fun _ _ _ h => h) (Or.inl ⟨by rfl, ?_⟩) hHeld ?_ ?_
            rotate_left
            · rintro w' ⟨s0, s1⟩
              go_simp
              with_reducible rfl
            rotate_left
            · simp only [Act.put, List.setIfInBounds_toArray, List.set_cons_zero, List.set_cons_succ, i64_w, i32_w]
              rfl
            refine pure_ (i := 10) (N := (some 26)) (v := ?_) (a' := ?_) #[true, true, true, true, true, true, true, true, true, true, true, false, false, false] rfl rfl (by kernel_rfl) (fun _ _ _ h => h) (Or.inl ⟨by rfl, ?_⟩) ?_ ?_
            rotate_left
            · intro w'
              go_simp
              with_reducible rfl
            rotate_left
            · simp only [Act.put, List.setIfInBounds_toArray, List.set_cons_zero, List.set_cons_succ, i64_w, i32_w]
              rfl
            refine take_ (i := 11) (N := (some 27)) (v := ?_) (a' := ?_) #[true, true, true, true, true, true, true, true, true, true, true, true, false, false] rfl rfl (by kernel_rfl) (fun _ _ _ h => h) (Or.inl ⟨by rfl, ?_⟩) hHeld ?_ ?_
            rotate_left
            · rintro w' ⟨s0, s1⟩
              go_simp
              with_reducible rfl
            rotate_left
            · simp only [Act.put, List.setIfInBounds_toArray, List.set_cons_zero, List.set_cons_succ, i64_w, i32_w]
              rfl
            refine pure_ (i := 12) (N := (some 28)) (v := ?_) (a' := ?_) #[true, true, true, true, true, true, true, true, true, true, true, true, true, false] rfl rfl (by kernel_rfl) (fun _ _ _ h => h) (Or.inl ⟨by rfl, ?_⟩) ?_ ?_
            rotate_left
            · intro w'
              go_simp
              with_reducible rfl
            rotate_left
            · simp only [Act.put, List.setIfInBounds_toArray, List.set_cons_zero, List.set_cons_succ, i64_w, i32_w]
              rfl
            refine pure_ (i := 13) (N := (some 29)) (v := ?_) (a' := ?_) #[true, true, true, true, true, true, true, true, true, true, true, true, true, true] rfl rfl (by kernel_rfl) (fun _ _ _ h => h) (Or.inl ⟨by rfl, ?_⟩) ?_ ?_
            rotate_left
            · intro w'
              go_simp
              with_reducible rfl
            rotate_left
            · simp only [Act.put, List.setIfInBounds_toArray, List.set_cons_zero, List.set_cons_succ, i64_w, i32_w]
              rfl
            refine done_ (by kernel_rfl) ?_
            go_wp2
            go_roundw
            case rel => exact ⟨n + 1, by omega, by go_num, ⟨below_step S2.out (below_drew1 (Below.refl _ _))⟩⟩
            case measure => simp [intOf]; omega
          | false =>
            have hn2 := Aside0.mk (wlen_stop out y.f0 n hn hno (by rw [hz]; exact hb))
            go_upto_region 6 with (fail)
            refine start_ (n := 14) (S := fun w' => w'.cell? (ado.add (n * 5)) = some (.string z.f0) ∧ w'.cell? ⟨wo.heap.size, 0, none⟩ = some (.string y.f0)) (ds := []) #[false, false, false, false, false, false, false, false, false, false, false, false, false, false] (by kernel_rfl) rfl rfl ⟨c0, y0⟩ (fun hHeld => ?_)
            refine pure_ (i := 0) (N := (some 16)) (v := ?_) (a' := ?_) #[true, false, false, false, false, false, false, false, false, false, false, false, false, false] rfl rfl (by kernel_rfl) (fun _ _ _ h => h) (Or.inl ⟨by rfl, ?_⟩) ?_ ?_
            rotate_left
            · intro w'
              go_simp
              with_reducible rfl
            rotate_left
            · simp only [Act.put, List.setIfInBounds_toArray, List.set_cons_zero, List.set_cons_succ, i64_w, i32_w]
              rfl
            refine pure_ (i := 1) (N := (some 17)) (v := ?_) (a' := ?_) #[true, true, false, false, false, false, false, false, false, false, false, false, false, false] rfl rfl (by kernel_rfl) (fun _ _ _ h => h) (Or.inl ⟨by rfl, ?_⟩) ?_ ?_
            rotate_left
            · intro w'
              go_simp
              with_reducible rfl
            rotate_left
            · simp only [Act.put, List.setIfInBounds_toArray, List.set_cons_zero, List.set_cons_succ, i64_w, i32_w]
              rfl
            refine pure_ (i := 2) (N := (some 18)) (v := ?_) (a' := ?_) #[true, true, true, false, false, false, false, false, false, false, false, false, false, false] rfl rfl (by kernel_rfl) (fun _ _ _ h => h) (Or.inl ⟨by rfl, ?_⟩) ?_ ?_
            rotate_left
            · intro w'
              go_simp
              with_reducible rfl
            rotate_left
            · simp only [Act.put, List.setIfInBounds_toArray, List.set_cons_zero, List.set_cons_succ, i64_w, i32_w]
              rfl
            refine pure_ (i := 3) (N := (some 19)) (v := ?_) (a' := ?_) #[true, true, true, true, false, false, false, false, false, false, false, false, false, false] rfl rfl (by kernel_rfl) (fun _ _ _ h => h) (Or.inl ⟨by rfl, ?_⟩) ?_ ?_
            rotate_left
            · intro w'
              go_simp
              with_reducible rfl
            rotate_left
            · simp only [Act.put, List.setIfInBounds_toArray, List.set_cons_zero, List.set_cons_succ, i64_w, i32_w]
              rfl
            refine pure_ (i := 4) (N := (some 20)) (v := ?_) (a' := ?_) #[true, true, true, true, true, false, false, false, false, false, false, false, false, false] rfl rfl (by kernel_rfl) (fun _ _ _ h => h) (Or.inl ⟨by rfl, ?_⟩) ?_ ?_
            rotate_left
            · intro w'
              go_simp
              with_reducible rfl
            rotate_left
            · simp only [Act.put, List.setIfInBounds_toArray, List.set_cons_zero, List.set_cons_succ, i64_w, i32_w]
              rfl
            refine pure_ (i := 5) (N := (some 21)) (v := ?_) (a' := ?_) #[true, true, true, true, true, true, false, false, false, false, false, false, false, false] rfl rfl (by kernel_rfl) (fun _ _ _ h => h) (Or.inl ⟨by rfl, ?_⟩) ?_ ?_
            rotate_left
            · intro w'
              go_simp
              with_reducible rfl
            rotate_left
            · simp only [Act.put, List.setIfInBounds_toArray, List.set_cons_zero, List.set_cons_succ, i64_w, i32_w]
              rfl
            refine pure_ (i := 6) (N := (some 22)) (v := ?_) (a' := ?_) #[true, true, true, true, true, true, true, false, false, false, false, false, false, false] rfl rfl (by kernel_rfl) (fun _ _ _ h => h) (Or.inl ⟨by rfl, ?_⟩) ?_ ?_
            rotate_left
            · intro w'
              go_simp
              with_reducible rfl
            rotate_left
            · simp only [Act.put, List.setIfInBounds_toArray, List.set_cons_zero, List.set_cons_succ, i64_w, i32_w]
              rfl
            refine pure_ (i := 7) (N := (some 23)) (v := ?_) (a' := ?_) #[true, true, true, true, true, true, true, true, false, false, false, false, false, false] rfl rfl (by kernel_rfl) (fun _ _ _ h => h) (Or.inl ⟨by rfl, ?_⟩) ?_ ?_
            rotate_left
            · intro w'
              go_simp
              with_reducible rfl
            rotate_left
            · simp only [Act.put, List.setIfInBounds_toArray, List.set_cons_zero, List.set_cons_succ, i64_w, i32_w]
              rfl
            refine pure_ (i := 8) (N := (some 24)) (v := ?_) (a' := ?_) #[true, true, true, true, true, true, true, true, true, false, false, false, false, false] rfl rfl (by kernel_rfl) (fun _ _ _ h => h) (Or.inl ⟨by rfl, ?_⟩) ?_ ?_
            rotate_left
            · intro w'
              go_simp
              with_reducible rfl
            rotate_left
            · simp only [Act.put, List.setIfInBounds_toArray, List.set_cons_zero, List.set_cons_succ, i64_w, i32_w]
              rfl
            refine take_ (i := 9) (N := (some 25)) (v := ?_) (a' := ?_) #[true, true, true, true, true, true, true, true, true, true, false, false, false, false] rfl rfl (by kernel_rfl) (fun _ _ _ h => h) (Or.inl ⟨by rfl, ?_⟩) hHeld ?_ ?_
            rotate_left
            · rintro w' ⟨s0, s1⟩
              go_simp
              with_reducible rfl
            rotate_left
            · simp only [Act.put, List.setIfInBounds_toArray, List.set_cons_zero, List.set_cons_succ, i64_w, i32_w]
              rfl
            refine pure_ (i := 10) (N := (some 26)) (v := ?_) (a' := ?_) #[true, true, true, true, true, true, true, true, true, true, true, false, false, false] rfl rfl (by kernel_rfl) (fun _ _ _ h => h) (Or.inl ⟨by rfl, ?_⟩) ?_ ?_
            rotate_left
            · intro w'
              go_simp
              with_reducible rfl
            rotate_left
            · simp only [Act.put, List.setIfInBounds_toArray, List.set_cons_zero, List.set_cons_succ, i64_w, i32_w]
              rfl
            refine take_ (i := 11) (N := (some 27)) (v := ?_) (a' := ?_) #[true, true, true, true, true, true, true, true, true, true, true, true, false, false] rfl rfl (by kernel_rfl) (fun _ _ _ h => h) (Or.inl ⟨by rfl, ?_⟩) hHeld ?_ ?_
            rotate_left
            · rintro w' ⟨s0, s1⟩
              go_simp
              with_reducible rfl
            rotate_left
            · simp only [Act.put, List.setIfInBounds_toArray, List.set_cons_zero, List.set_cons_succ, i64_w, i32_w]
              rfl
            refine pure_ (i := 12) (N := (some 28)) (v := ?_) (a' := ?_) #[true, true, true, true, true, true, true, true, true, true, true, true, true, false] rfl rfl (by kernel_rfl) (fun _ _ _ h => h) (Or.inl ⟨by rfl, ?_⟩) ?_ ?_
            rotate_left
            · intro w'
              go_simp
              with_reducible rfl
            rotate_left
            · simp only [Act.put, List.setIfInBounds_toArray, List.set_cons_zero, List.set_cons_succ, i64_w, i32_w]
              rfl
            refine pure_ (i := 13) (N := (some 29)) (v := ?_) (a' := ?_) #[true, true, true, true, true, true, true, true, true, true, true, true, true, true] rfl rfl (by kernel_rfl) (fun _ _ _ h => h) (Or.inl ⟨by rfl, ?_⟩) ?_ ?_
            rotate_left
            · intro w'
              go_simp
              with_reducible rfl
            rotate_left
            · simp only [Act.put, List.setIfInBounds_toArray, List.set_cons_zero, List.set_cons_succ, i64_w, i32_w]
              rfl
            refine done_ (by kernel_rfl) ?_
            have S3 := Aside0.mk (below_step S2.out (below_drew1 (Below.refl wr.heap.size wr)))
            generalize wr.drew = w3 at S3 ⊢
            clear S2 hb y0 c0
            go_upto_region 8 with (fail)
            have hC3 := Kd.C_below hC2.out S3.out
            have y0 : w3.cell? ⟨wo.heap.size, 0, none⟩ = some (.string y.f0) := pw_cell_below S3.out ((blk_cell hnew.out 0).trans rfl)
            have hz1 := hz
            obtain ⟨ado2, e2, c0, c1, c2, c3, c4⟩ := at_T23 hC3 (n : Int) (by omega) (by omega)
            cases e2
            have Z0 : rd_T23 out (n : Int) = out.getD n z23 := by unfold rd_T23; rw [Int.toNat_natCast]
            rw [Z0, hz] at c0 c1 c2 c3 c4
            simp only [Int.toNat_natCast] at c0 c1 c2 c3 c4
            clear Z0 hz1 hC3
            have hz := Aside0.mk hz
            cases he : (z.f0.toList == y.f0.toList) with
            | true =>
              refine start_ (n := 14) (S := fun w' => w'.cell? (ado.add (n * 5)) = some (.string z.f0) ∧ w'.cell? ⟨wo.heap.size, 0, none⟩ = some (.string y.f0)) (ds := []) #[false, false, false, false, false, false, false, false, false, false, false, false, false, false] (by kernel_rfl) rfl rfl ⟨c0, y0⟩ (fun hHeld => ?_)
              refine pure_ (i := 0) (N := (some 32)) (v := ?_) (a' := ?_) #[true, false, false, false, false, false, false, false, false, false, false, false, false, false] rfl rfl (by kernel_rfl) (fun _ _ _ h => h) (Or.inl ⟨by rfl, ?_⟩) ?_ ?_
              rotate_left
              · intro w'
                go_simp
                with_reducible rfl
              rotate_left
              · simp only [Act.put, List.setIfInBounds_toArray, List.set_cons_zero, List.set_cons_succ, i64_w, i32_w]
                rfl
              refine pure_ (i := 1) (N := (some 33)) (v := ?_) (a' := ?_) #[true, true, false, false, false, false, false, false, false, false, false, false, false, false] rfl rfl (by kernel_rfl) (fun _ _ _ h => h) (Or.inl ⟨by rfl, ?_⟩) ?_ ?_
              rotate_left
              · intro w'
                go_simp
                with_reducible rfl
              rotate_left
              · simp only [Act.put, List.setIfInBounds_toArray, List.set_cons_zero, List.set_cons_succ, i64_w, i32_w]
                rfl
              refine pure_ (i := 2) (N := (some 34)) (v := ?_) (a' := ?_) #[true, true, true, false, false, false, false, false, false, false, false, false, false, false] rfl rfl (by kernel_rfl) (fun _ _ _ h => h) (Or.inl ⟨by rfl, ?_⟩) ?_ ?_
              rotate_left
              · intro w'
                go_simp
                with_reducible rfl
              rotate_left
              · simp only [Act.put, List.setIfInBounds_toArray, List.set_cons_zero, List.set_cons_succ, i64_w, i32_w]
                rfl
              refine pure_ (i := 3) (N := (some 35)) (v := ?_) (a' := ?_) #[true, true, true, true, false, false, false, false, false, false, false, false, false, false] rfl rfl (by kernel_rfl) (fun _ _ _ h => h) (Or.inl ⟨by rfl, ?_⟩) ?_ ?_
              rotate_left
              · intro w'
                go_simp
                with_reducible rfl
              rotate_left
              · simp only [Act.put, List.setIfInBounds_toArray, List.set_cons_zero, List.set_cons_succ, i64_w, i32_w]
                rfl
              refine pure_ (i := 4) (N := (some 36)) (v := ?_) (a' := ?_) #[true, true, true, true, true, false, false, false, false, false, false, false, false, false] rfl rfl (by kernel_rfl) (fun _ _ _ h => h) (Or.inl ⟨by rfl, ?_⟩) ?_ ?_
              rotate_left
              · intro w'
                go_simp
                with_reducible rfl
              rotate_left
              · simp only [Act.put, List.setIfInBounds_toArray, List.set_cons_zero, List.set_cons_succ, i64_w, i32_w]
                rfl
              refine pure_ (i := 5) (N := (some 37)) (v := ?_) (a' := ?_) #[true, true, true, true, true, true, false, false, false, false, false, false, false, false] rfl rfl (by kernel_rfl) (fun _ _ _ h => h) (Or.inl ⟨by rfl, ?_⟩) ?_ ?_
              rotate_left
              · intro w'
                go_simp
                with_reducible rfl
              rotate_left
              · simp only [Act.put, List.setIfInBounds_toArray, List.set_cons_zero, List.set_cons_succ, i64_w, i32_w]
                rfl
              refine pure_ (i := 6) (N := (some 38)) (v := ?_) (a' := ?_) #[true, true, true, true, true, true, true, false, false, false, false, false, false, false] rfl rfl (by kernel_rfl) (fun _ _ _ h => h) (Or.inl ⟨by rfl, ?_⟩) ?_ ?_
              rotate_left
              · intro w'
                go_simp
                with_reducible rfl
              rotate_left
              · simp only [Act.put, List.setIfInBounds_toArray, List.set_cons_zero, List.set_cons_succ, i64_w, i32_w]
                rfl
              refine pure_ (i := 7) (N := (some 39)) (v := ?_) (a' := ?_) #[true, true, true, true, true, true, true, true, false, false, false, false, false, false] rfl rfl (by kernel_rfl) (fun _ _ _ h => h) (Or.inl ⟨by rfl, ?_⟩) ?_ ?_
              rotate_left
              · intro w'
                go_simp
                with_reducible rfl
              rotate_left
              · simp only [Act.put, List.setIfInBounds_toArray, List.set_cons_zero, List.set_cons_succ, i64_w, i32_w]
                rfl
              refine pure_ (i := 8) (N := (some 40)) (v := ?_) (a' := ?_) #[true, true, true, true, true, true, true, true, true, false, false, false, false, false] rfl rfl (by kernel_rfl) (fun _ _ _ h => h) (Or.inl ⟨by rfl, ?_⟩) ?_ ?_
              rotate_left
              · intro w'
                go_simp
                with_reducible rfl
              rotate_left
              · simp only [Act.put, List.setIfInBounds_toArray, List.set_cons_zero, List.set_cons_succ, i64_w, i32_w]
                rfl
              refine take_ (i := 9) (N := (some 41)) (v := ?_) (a' := ?_) #[true, true, true, true, true, true, true, true, true, true, false, false, false, false] rfl rfl (by kernel_rfl) (fun _ _ _ h => h) (Or.inl ⟨by rfl, ?_⟩) hHeld ?_ ?_
              rotate_left
              · rintro w' ⟨s0, s1⟩
                go_simp
                with_reducible rfl
              rotate_left
              · simp only [Act.put, List.setIfInBounds_toArray, List.set_cons_zero, List.set_cons_succ, i64_w, i32_w]
                rfl
              refine pure_ (i := 10) (N := (some 42)) (v := ?_) (a' := ?_) #[true, true, true, true, true, true, true, true, true, true, true, false, false, false] rfl rfl (by kernel_rfl) (fun _ _ _ h => h) (Or.inl ⟨by rfl, ?_⟩) ?_ ?_
              rotate_left
              · intro w'
                go_simp
                with_reducible rfl
              rotate_left
              · simp only [Act.put, List.setIfInBounds_toArray, List.set_cons_zero, List.set_cons_succ, i64_w, i32_w]
                rfl
              refine take_ (i := 11) (N := (some 43)) (v := ?_) (a' := ?_) #[true, true, true, true, true, true, true, true, true, true, true, true, false, false] rfl rfl (by kernel_rfl) (fun _ _ _ h => h) (Or.inl ⟨by rfl, ?_⟩) hHeld ?_ ?_
              rotate_left
              · rintro w' ⟨s0, s1⟩
                go_simp
                with_reducible rfl
              rotate_left
              · simp only [Act.put, List.setIfInBounds_toArray, List.set_cons_zero, List.set_cons_succ, i64_w, i32_w]
                rfl
              refine pure_ (i := 12) (N := (some 44)) (v := ?_) (a' := ?_) #[true, true, true, true, true, true, true, true, true, true, true, true, true, false] rfl rfl (by kernel_rfl) (fun _ _ _ h => h) (Or.inl ⟨by rfl, ?_⟩) ?_ ?_
              rotate_left
              · intro w'
                go_simp
                with_reducible rfl
              rotate_left
              · simp only [Act.put, List.setIfInBounds_toArray, List.set_cons_zero, List.set_cons_succ, i64_w, i32_w]
                rfl
              refine pure_ (i := 13) (N := (some 45)) (v := ?_) (a' := ?_) #[true, true, true, true, true, true, true, true, true, true, true, true, true, true] rfl rfl (by kernel_rfl) (fun _ _ _ h => h) (Or.inl ⟨by rfl, ?_⟩) ?_ ?_
              rotate_left
              · intro w'
                go_simp
                with_reducible rfl
              rotate_left
              · simp only [Act.put, List.setIfInBounds_toArray, List.set_cons_zero, List.set_cons_succ, i64_w, i32_w]
                rfl
              refine done_ (by kernel_rfl) ?_
              have S4 := Aside0.mk (below_step S3.out (below_drew1 (Below.refl w3.heap.size w3)))
              replace c0 := pw_cell_below (below_drew1 (Below.refl w3.heap.size w3)) c0
              replace c1 := pw_cell_below (below_drew1 (Below.refl w3.heap.size w3)) c1
              replace c2 := pw_cell_below (below_drew1 (Below.refl w3.heap.size w3)) c2
              replace c3 := pw_cell_below (below_drew1 (Below.refl w3.heap.size w3)) c3
              replace c4 := pw_cell_below (below_drew1 (Below.refl w3.heap.size w3)) c4
              generalize w3.drew = w4 at S4 c0 c1 c2 c3 c4 ⊢
              clear S3 y0
              have hit : ref_Make.hit out y = true := by
                unfold ref_Make.hit
                rw [← hn2.out, hz.out, he, decide_eq_true hno]
                rfl
              have hI := HI.out
              rw [if_pos hit, ← hn2.out, hz.out] at hI
              clear hit HI he
              obtain ⟨rr, hbf, hI2⟩ := Option.bind_eq_some_iff.1 hI
              obtain ⟨n1, n2, n3, n4, n5, ok⟩ := rr
              clear hI
              have HI2 := Aside0.mk hI2
              clear hI2
              go_upto_region 9 with (fail)
              have hnew4 := (S4.out.block _ (by have := blk_lt hnew.out; exact this)).trans hnew.out
              have hS : ∀ w', Below w4.heap.size w4 w' → w'.cell? (ado.add (n * 5)) = some (.string z.f0) ∧ w'.cell? ⟨(ado.add (n * 5)).block, (ado.add (n * 5)).off + 1, none⟩ = some (.int .i64 z.f1) ∧ w'.cell? ⟨(ado.add (n * 5)).block, (ado.add (n * 5)).off + 2, none⟩ = some (.int .i64 z.f2) ∧ w'.cell? ⟨(ado.add (n * 5)).block, (ado.add (n * 5)).off + 3, none⟩ = some (.int .i64 z.f3) ∧ w'.cell? ⟨(ado.add (n * 5)).block, (ado.add (n * 5)).off + 4, none⟩ = some (.string z.f4) ∧ w'.cell? ⟨wo.heap.size, 0, none⟩ = some (.string y.f0) ∧ w'.cell? ⟨wo.heap.size, 1, none⟩ = some (.int .i64 y.f1) ∧ w'.cell? ⟨wo.heap.size, 2, none⟩ = some (.int .i64 y.f2) ∧ w'.cell? ⟨wo.heap.size, 3, none⟩ = some (.int .i64 y.f3) ∧ w'.cell? ⟨wo.heap.size, 4, none⟩ = some (.string y.f4) := fun w' hw => ⟨pw_cell_below hw c0, pw_cell_below hw c1, pw_cell_below hw c2, pw_cell_below hw c3, pw_cell_below hw c4, pw_cell_below hw ((blk_cell hnew4 0).trans rfl), pw_cell_below hw ((blk_cell hnew4 1).trans rfl), pw_cell_below hw ((blk_cell hnew4 2).trans rfl), pw_cell_below hw ((blk_cell hnew4 3).trans rfl), pw_cell_below hw ((blk_cell hnew4 4).trans rfl)⟩
              refine start_ (n := 12) (S := fun w' => w'.cell? (ado.add (n * 5)) = some (.string z.f0) ∧ w'.cell? ⟨(ado.add (n * 5)).block, (ado.add (n * 5)).off + 1, none⟩ = some (.int .i64 z.f1) ∧ w'.cell? ⟨(ado.add (n * 5)).block, (ado.add (n * 5)).off + 2, none⟩ = some (.int .i64 z.f2) ∧ w'.cell? ⟨(ado.add (n * 5)).block, (ado.add (n * 5)).off + 3, none⟩ = some (.int .i64 z.f3) ∧ w'.cell? ⟨(ado.add (n * 5)).block, (ado.add (n * 5)).off + 4, none⟩ = some (.string z.f4) ∧ w'.cell? ⟨wo.heap.size, 0, none⟩ = some (.string y.f0) ∧ w'.cell? ⟨wo.heap.size, 1, none⟩ = some (.int .i64 y.f1) ∧ w'.cell? ⟨wo.heap.size, 2, none⟩ = some (.int .i64 y.f2) ∧ w'.cell? ⟨wo.heap.size, 3, none⟩ = some (.int .i64 y.f3) ∧ w'.cell? ⟨wo.heap.size, 4, none⟩ = some (.string y.f4)) (ds := [10]) #[false, false, false, false, false, false, false, false, false, false, false, false] (by kernel_rfl) rfl rfl (hS _ (below_drew1 (Below.refl _ _))) (fun hHeld => ?_)
              have hW0 : Below w4.heap.size w4 w4.drew := below_drew1 (Below.refl _ _)
              have hSz := fun (W' : World) (hW : Below w4.drew.heap.size w4.drew W') => hS W' (below_step hW0 hW)
              generalize w4.drew = W0 at hW0 hHeld hSz ⊢
              clear hS
              refine pure_ (i := 0) (N := (some 47)) (v := ?_) (a' := ?_) #[true, false, false, false, false, false, false, false, false, false, false, false] rfl rfl (by kernel_rfl) (fun _ _ _ h => h) (Or.inl ⟨by rfl, ?_⟩) ?_ ?_
              rotate_left
              · intro w'
                go_simp
                with_reducible rfl
              rotate_left
              · simp only [Act.put, List.setIfInBounds_toArray, List.set_cons_zero, List.set_cons_succ, i64_w, i32_w]
                rfl
              refine pure_ (i := 1) (N := (some 48)) (v := ?_) (a' := ?_) #[true, true, false, false, false, false, false, false, false, false, false, false] rfl rfl (by kernel_rfl) (fun _ _ _ h => h) (Or.inl ⟨by rfl, ?_⟩) ?_ ?_
              rotate_left
              · intro w'
                go_simp
                with_reducible rfl
              rotate_left
              · simp only [Act.put, List.setIfInBounds_toArray, List.set_cons_zero, List.set_cons_succ, i64_w, i32_w]
                rfl
              refine pure_ (i := 2) (N := (some 49)) (v := ?_) (a' := ?_) #[true, true, true, false, false, false, false, false, false, false, false, false] rfl rfl (by kernel_rfl) (fun _ _ _ h => h) (Or.inl ⟨by rfl, ?_⟩) ?_ ?_
              rotate_left
              · intro w'
                go_simp
                with_reducible rfl
              rotate_left
              · simp only [Act.put, List.setIfInBounds_toArray, List.set_cons_zero, List.set_cons_succ, i64_w, i32_w]
                rfl
              refine take_ (i := 3) (N := (some 50)) (v := ?_) (a' := ?_) #[true, true, true, true, false, false, false, false, false, false, false, false] rfl rfl (by kernel_rfl) (fun _ _ _ h => h) (Or.inl ⟨by rfl, ?_⟩) hHeld ?_ ?_
              rotate_left
              · rintro w' ⟨s0, s1, s2, s3, s4, s5, s6, s7, s8, s9⟩
                go_simp
                with_reducible rfl
              rotate_left
              · simp only [Act.put, List.setIfInBounds_toArray, List.set_cons_zero, List.set_cons_succ, i64_w, i32_w]
                rfl
              refine take_ (i := 4) (N := (some 51)) (v := ?_) (a' := ?_) #[true, true, true, true, true, false, false, false, false, false, false, false] rfl rfl (by kernel_rfl) (fun _ _ _ h => h) (Or.inl ⟨by rfl, ?_⟩) hHeld ?_ ?_
              rotate_left
              · rintro w' ⟨s0, s1, s2, s3, s4, s5, s6, s7, s8, s9⟩
                go_simp
                with_reducible rfl
              rotate_left
              · simp only [Act.put, List.setIfInBounds_toArray, List.set_cons_zero, List.set_cons_succ, i64_w, i32_w]
                rfl
              refine join_ (σ := Nat) 2 #[true, true, true, true, true, true, true, true, true, true, false, false] (fun g => [(52, .tuple #[.agg #[.string n1, .int .i64 n2, .int .i64 n3, .int .i64 n4, .string n5], .bool ok]), (46, .tuple #[.agg #[.string n1, .int .i64 n2, .int .i64 n3, .int .i64 n4, .string n5], .bool ok]), (53, .agg #[.string n1, .int .i64 n2, .int .i64 n3, .int .i64 n4, .string n5]), (54, .bool ok), (8, .pointer (some ⟨g, 0, none⟩))]) (fun g W' => Below W0.heap.size W0 W' ∧ W0.heap.size ≤ g ∧ W'.heap[g]? = some (.cells #[.string ⟨#[]⟩, .int .i64 0, .int .i64 0, .int .i64 0, .string ⟨#[]⟩] 23 (0, 0))) ?_ ?_
              rotate_left
              · intro hJ
                refine two_ (i := 5) (j := 9) (Ni := some 52) (Nj := some 8) #[true, true, true, true, true, true, false, false, false, false, false, false] #[true, true, true, true, true, false, false, false, false, true, false, false] rfl rfl rfl rfl (by kernel_rfl) (by decide) (by decide) (fun K hK => ?_) (fun K hK => ?_)
                · skip
                  refine goes_ Try.func40 (by kernel_rfl) rfl #[.agg #[.string z.f0, .int .i64 z.f1, .int .i64 z.f2, .int .i64 z.f3, .string z.f4], .agg #[.string y.f0, .int .i64 y.f1, .int .i64 y.f2, .int .i64 y.f3, .string y.f4]] (by rfl) rfl rfl (by (try simp only [List.map_toArray, List.map_cons, List.map_nil]); first | done | rfl) ?_
                  refine (ref_Both.calls_ _ _ _ _ _ _ _ _ _ _ n1 n2 n3 n4 n5 ok W0 hbf).mono ?_
                  rintro e W1 ⟨rfl, hbc⟩
                  refine ⟨_, rfl, ?_⟩
                  have hbd := hbc
                  refine hK.out _ _ (hSz _ hbd) (fun hHeld => ?_)
                  clear hK K
                  refine norm_ (a' := ?_) ?_ ?_
                  rotate_left
                  · show Act.put _ (some 52) _ = _
                    simp only [Act.put, List.setIfInBounds_toArray, List.set_cons_zero, List.set_cons_succ, i64_w, i32_w]
                    rfl
                  refine pure_ (i := 6) (N := (some 46)) (v := ?_) (a' := ?_) #[true, true, true, true, true, true, true, false, false, false, false, false] rfl rfl (by kernel_rfl) (fun _ _ _ h => h) (Or.inl ⟨by rfl, ?_⟩) ?_ ?_
                  rotate_left
                  · intro w'
                    go_simp
                    with_reducible rfl
                  rotate_left
                  · simp only [Act.put, List.setIfInBounds_toArray, List.set_cons_zero, List.set_cons_succ, i64_w, i32_w]
                    rfl
                  refine pure_ (i := 7) (N := (some 53)) (v := ?_) (a' := ?_) #[true, true, true, true, true, true, true, true, false, false, false, false] rfl rfl (by kernel_rfl) (fun _ _ _ h => h) (Or.inl ⟨by rfl, ?_⟩) ?_ ?_
                  rotate_left
                  · intro w'
                    go_simp
                    with_reducible rfl
                  rotate_left
                  · simp only [Act.put, List.setIfInBounds_toArray, List.set_cons_zero, List.set_cons_succ, i64_w, i32_w]
                    rfl
                  refine pure_ (i := 8) (N := (some 54)) (v := ?_) (a' := ?_) #[true, true, true, true, true, true, true, true, true, false, false, false] rfl rfl (by kernel_rfl) (fun _ _ _ h => h) (Or.inl ⟨by rfl, ?_⟩) ?_ ?_
                  rotate_left
                  · intro w'
                    go_simp
                    with_reducible rfl
                  rotate_left
                  · simp only [Act.put, List.setIfInBounds_toArray, List.set_cons_zero, List.set_cons_succ, i64_w, i32_w]
                    rfl
                  refine one_ (i := 9) (N := (some 8)) #[true, true, true, true, true, true, true, true, true, true, false, false] rfl rfl (by kernel_rfl) (by decide) (fun K hK => ?_)
                  refine value_ (w1 := W1.alloc (.cells #[.string ⟨#[]⟩, .int .i64 0, .int .i64 0, .int .i64 0, .string ⟨#[]⟩] 23)) (v := .pointer (some ⟨W1.heap.size, 0, none⟩)) (by rfl) rfl (by go_simp) ?_
                  refine hK.out _ _ (hSz _ (below_alloc hbd _)) (fun hHeld => ?_)
                  clear hK K
                  refine norm_ (a' := ?_) ?_ ?_
                  rotate_left
                  · show Act.put _ (some 8) _ = _
                    simp only [Act.put, List.setIfInBounds_toArray, List.set_cons_zero, List.set_cons_succ, i64_w, i32_w]
                    rfl
                  have h := hJ W1.heap.size _ ⟨below_alloc hbd _, hbd.size, heap_alloc_new W1 _⟩
                  simp only [putAll, Act.put, List.setIfInBounds_toArray, List.set_cons_zero, List.set_cons_succ] at h
                  exact h
                · skip
                  refine value_ (w1 := W0.alloc (.cells #[.string ⟨#[]⟩, .int .i64 0, .int .i64 0, .int .i64 0, .string ⟨#[]⟩] 23)) (v := .pointer (some ⟨W0.heap.size, 0, none⟩)) (by rfl) rfl (by go_simp) ?_
                  refine hK.out _ _ (hSz _ (below_alloc (Below.refl _ _) _)) (fun hHeld => ?_)
                  clear hK K
                  refine norm_ (a' := ?_) ?_ ?_
                  rotate_left
                  · show Act.put _ (some 8) _ = _
                    simp only [Act.put, List.setIfInBounds_toArray, List.set_cons_zero, List.set_cons_succ, i64_w, i32_w]
                    rfl
                  refine one_ (i := 5) (N := (some 52)) #[true, true, true, true, true, true, false, false, false, true, false, false] rfl rfl (by kernel_rfl) (by decide) (fun K hK => ?_)
                  refine goes_ Try.func40 (by kernel_rfl) rfl #[.agg #[.string z.f0, .int .i64 z.f1, .int .i64 z.f2, .int .i64 z.f3, .string z.f4], .agg #[.string y.f0, .int .i64 y.f1, .int .i64 y.f2, .int .i64 y.f3, .string y.f4]] (by rfl) rfl rfl (by (try simp only [List.map_toArray, List.map_cons, List.map_nil]); first | done | rfl) ?_
                  refine (ref_Both.calls_ _ _ _ _ _ _ _ _ _ _ n1 n2 n3 n4 n5 ok _ hbf).mono ?_
                  rintro e W1 ⟨rfl, hbc⟩
                  refine ⟨_, rfl, ?_⟩
                  have hbd := below_step (below_alloc (Below.refl W0.heap.size W0) _) hbc
                  refine hK.out _ _ (hSz _ hbd) (fun hHeld => ?_)
                  clear hK K
                  refine norm_ (a' := ?_) ?_ ?_
                  rotate_left
                  · show Act.put _ (some 52) _ = _
                    simp only [Act.put, List.setIfInBounds_toArray, List.set_cons_zero, List.set_cons_succ, i64_w, i32_w]
                    rfl
                  refine pure_ (i := 6) (N := (some 46)) (v := ?_) (a' := ?_) #[true, true, true, true, true, true, true, false, false, true, false, false] rfl rfl (by kernel_rfl) (fun _ _ _ h => h) (Or.inl ⟨by rfl, ?_⟩) ?_ ?_
                  rotate_left
                  · intro w'
                    go_simp
                    with_reducible rfl
                  rotate_left
                  · simp only [Act.put, List.setIfInBounds_toArray, List.set_cons_zero, List.set_cons_succ, i64_w, i32_w]
                    rfl
                  refine pure_ (i := 7) (N := (some 53)) (v := ?_) (a' := ?_) #[true, true, true, true, true, true, true, true, false, true, false, false] rfl rfl (by kernel_rfl) (fun _ _ _ h => h) (Or.inl ⟨by rfl, ?_⟩) ?_ ?_
                  rotate_left
                  · intro w'
                    go_simp
                    with_reducible rfl
                  rotate_left
                  · simp only [Act.put, List.setIfInBounds_toArray, List.set_cons_zero, List.set_cons_succ, i64_w, i32_w]
                    rfl
                  refine pure_ (i := 8) (N := (some 54)) (v := ?_) (a' := ?_) #[true, true, true, true, true, true, true, true, true, true, false, false] rfl rfl (by kernel_rfl) (fun _ _ _ h => h) (Or.inl ⟨by rfl, ?_⟩) ?_ ?_
                  rotate_left
                  · intro w'
                    go_simp
                    with_reducible rfl
                  rotate_left
                  · simp only [Act.put, List.setIfInBounds_toArray, List.set_cons_zero, List.set_cons_succ, i64_w, i32_w]
                    rfl
                  have h := hJ W0.heap.size _ ⟨hbd, Nat.le_refl _, (hbc.block _ (by simp)).trans (heap_alloc_new W0 _)⟩
                  simp only [putAll, Act.put, List.setIfInBounds_toArray, List.set_cons_zero, List.set_cons_succ] at h
                  exact h
              rintro g1 W1 ⟨hb1, hg1, hz1⟩
              refine norm_ (a' := ?_) ?_ ?_
              rotate_left
              · simp only [putAll, Act.put, List.setIfInBounds_toArray, List.set_cons_zero, List.set_cons_succ]
                rfl
              have hv0 := (blk_cell hz1 0).trans rfl
              have hv1 := (blk_cell hz1 1).trans rfl
              have hv2 := (blk_cell hz1 2).trans rfl
              have hv3 := (blk_cell hz1 3).trans rfl
              have hv4 := (blk_cell hz1 4).trans rfl
              have hfz : ∀ j, W1.frozen? ⟨g1, j, none⟩ = false := fun j => blk_frozen hz1 j
              refine last_ (i := 10) (N := none) #[true, true, true, true, true, true, true, true, true, true, true, false] rfl rfl (by kernel_rfl) (by decide) (fun K hK => ?_)
              refine skip_ (w1 := (((((W1.setCell ⟨g1, 0, none⟩ (.string n1)).setCell ⟨g1, 1, none⟩ (.int .i64 n2)).setCell ⟨g1, 2, none⟩ (.int .i64 n3)).setCell ⟨g1, 3, none⟩ (.int .i64 n4)).setCell ⟨g1, 4, none⟩ (.string n5))) (by rfl) rfl (by go_simp) ?_
              refine hK.out _ _ ?_
              clear hK K
              refine pure_ (i := 11) (N := (some 9)) (v := ?_) (a' := ?_) #[true, true, true, true, true, true, true, true, true, true, true, true] rfl rfl (by kernel_rfl) (fun _ _ _ h => h) (Or.inl ⟨by rfl, ?_⟩) ?_ ?_
              rotate_left
              · intro w'
                go_simp
                with_reducible rfl
              rotate_left
              · simp only [Act.put, List.setIfInBounds_toArray, List.set_cons_zero, List.set_cons_succ, i64_w, i32_w]
                rfl
              refine done_ (by kernel_rfl) ?_
              have hz2 : (((((W1.setCell ⟨g1, 0, none⟩ (.string n1)).setCell ⟨g1, 1, none⟩ (.int .i64 n2)).setCell ⟨g1, 2, none⟩ (.int .i64 n3)).setCell ⟨g1, 3, none⟩ (.int .i64 n4)).setCell ⟨g1, 4, none⟩ (.string n5)).heap[g1]? = some (.cells #[.string n1, .int .i64 n2, .int .i64 n3, .int .i64 n4, .string n5] 23 (0, 0)) := by simpa using (blk_set (blk_set (blk_set (blk_set (blk_set hz1 0 (.string n1)) 1 (.int .i64 n2)) 2 (.int .i64 n3)) 3 (.int .i64 n4)) 4 (.string n5))
              have hbW2 : Below W0.heap.size W0 (((((W1.setCell ⟨g1, 0, none⟩ (.string n1)).setCell ⟨g1, 1, none⟩ (.int .i64 n2)).setCell ⟨g1, 2, none⟩ (.int .i64 n3)).setCell ⟨g1, 3, none⟩ (.int .i64 n4)).setCell ⟨g1, 4, none⟩ (.string n5)) := ((((hb1.setCell hg1 _).setCell hg1 _).setCell hg1 _).setCell hg1 _).setCell hg1 _
              generalize (((((W1.setCell ⟨g1, 0, none⟩ (.string n1)).setCell ⟨g1, 1, none⟩ (.int .i64 n2)).setCell ⟨g1, 2, none⟩ (.int .i64 n3)).setCell ⟨g1, 3, none⟩ (.int .i64 n4)).setCell ⟨g1, 4, none⟩ (.string n5)) = W2 at hz2 hbW2 ⊢
              have S5 := Aside0.mk (below_step S4.out (below_step hW0 hbW2))
              have HZ2 := Aside0.mk hz2
              clear hv0 hv1 hv2 hv3 hv4 hfz hz1 hHeld hSz hb1 hg1 hbW2 hW0 hz2 c0 c1 c2 c3 c4 S4 hnew4
              cases ok with
              | false =>
                have hr3 : r = ([], false) := by have := HI2.out; simpa using this.symm
                subst hr3
                go_wp2
                go_ret2
                exact ⟨_, rfl, own_nil _ _ _ _, below_step S1.out (below_step hbal.out S5.out)⟩
              | true =>
                have hI3 : Aside0 (ref_Make.l (out.set n ⟨n1, n2, n3, n4, n5⟩) (l.drop (i + 1)) = some r) := ⟨by simpa using HI2.out⟩
                clear HI2
                go_upto_region 12 with (fail)
                have SA := Aside0.mk (below_step hbal.out S5.out)
                have HX := Aside0.mk (Kd.C_below (Kd.C_below HCV.out SA.out) (below_alloc (Below.refl W2.heap.size W2) (.cells #[] 23)))
                have HO : Aside0 (Own23 (W2.alloc (.cells #[] 23)) w.heap.size (.slice (some ⟨W2.heap.size, 0, none⟩) 0 0) []) := ⟨own23_of_cells (ds := []) (heap_alloc_new W2 _) (by simp) (by have := S1.out.size; have := SA.out.size; omega)⟩
                go_upto_region 13 with (at_builtin; refine wpList_app23 rfl (.tmp 57) (.tmp 58) rfl rfl (by rfl) (by rfl) HO.out HX.out (by have := S1.out.size; have := SA.out.size; simp; omega) (by simp; omega) ?_; intro v1 w5 ho5 hg5 hat5)
                clear HO HX
                rw [List.nil_append] at ho5
                have hb5 : Aside0 (Below W2.heap.size W2 w5) := ⟨grown_below (below_alloc (Below.refl W2.heap.size W2) _) hg5 (fun q hq => by simp [Value.ownBlock] at hq; omega)⟩
                have hq5 : ∀ q, v1.ownBlock = some q → W2.heap.size ≤ q := fun q hq => by
                  rcases hat5 with hat | ⟨b, hb, hle⟩
                  · rw [hat] at hq
                    simp [Value.ownBlock] at hq
                    omega
                  · rw [hq] at hb
                    cases hb
                    simp at hle
                    omega
                obtain ⟨gv, cap5, cur5, rfl, hgvb⟩ : ∃ gv cap cur, v1 = .slice (some ⟨gv, 0, none⟩) out.length cap ∧ w5.heap[gv]? = some (.cells cur 23 (0, 0)) := by
                  rcases ho5.2 with ⟨e, e2⟩ | ⟨g, cap, cur, e, _, hh, _⟩
                  · have := ho5.1; rw [e2] at this; simp at this; omega
                  · exact ⟨g, cap, cur, e, hh⟩
                have hgv5 := hq5 gv rfl
                have O5 := Aside0.mk ho5
                clear ho5 hg5 hat5 hq5
                have hz5 := (hb5.out.block _ (blk_lt HZ2.out)).trans HZ2.out
                have hv0 := (blk_cell hz5 0).trans rfl
                have hv1 := (blk_cell hz5 1).trans rfl
                have hv2 := (blk_cell hz5 2).trans rfl
                have hv3 := (blk_cell hz5 3).trans rfl
                have hv4 := (blk_cell hz5 4).trans rfl
                have hfz : ∀ j, w5.frozen? ⟨gv, j, none⟩ = false := fun j => blk_frozen hgvb j
                obtain ⟨A5, k5, e5, _, hC5⟩ := own23_C O5.out rfl
                cases e5
                obtain ⟨ad5, e5, d0, d1, d2, d3, d4⟩ := at_T23 hC5 (n : Int) (by omega) (by omega)
                cases e5
                simp only [Int.toNat_natCast, Go.Proofs.YtfabnapjbgamaaaW.PrintWords.add_plain] at d0 d1 d2 d3 d4
                clear hC5
                have hfl := flat23_length out
                have hkl : n * 5 + 4 < (flat23 out).length := by rw [hfl]; omega
                have O6 := own_cell_set (own_cell_set (own_cell_set (own_cell_set (own_cell_set O5.out (n * 5) (by omega) (.string n1)) (n * 5 + 1) (by simp; omega) (.int .i64 n2)) (n * 5 + 2) (by simp; omega) (.int .i64 n3)) (n * 5 + 3) (by simp; omega) (.int .i64 n4)) (n * 5 + 4) (by simp; omega) (.string n5)
                rw [flat23_set out n ⟨n1, n2, n3, n4, n5⟩ hno] at O6
                have O7 := Aside0.mk O6
                clear O6 hfl hkl
                have hgb : w.heap.size ≤ gv := by have := S1.out.size; have := SA.out.size; omega
                have hln : (out.set n ⟨n1, n2, n3, n4, n5⟩).length = out.length := by simp
                have HLN := Aside0.mk hln
                clear hln
                have HB5 : Aside0 (Below w.heap.size w w5) := ⟨below_step S1.out (below_step SA.out hb5.out)⟩
                clear hz5 hgvb
                go_wp2
                go_roundw
                case rel => exact ⟨i + 1, out.set n ⟨n1, n2, n3, n4, n5⟩, by omega, by go_num, ⟨by unfold Own23; rw [HLN.out]; exact O7.out⟩, by rw [HLN.out]; omega, hI3, ⟨((((HB5.out.setCell hgb _).setCell hgb _).setCell hgb _).setCell hgb _).setCell hgb _⟩⟩
                case measure => simp [intOf]; omega
            | false =>
              refine start_ (n := 14) (S := fun w' => w'.cell? (ado.add (n * 5)) = some (.string z.f0) ∧ w'.cell? ⟨wo.heap.size, 0, none⟩ = some (.string y.f0)) (ds := []) #[false, false, false, false, false, false, false, false, false, false, false, false, false, false] (by kernel_rfl) rfl rfl ⟨c0, y0⟩ (fun hHeld => ?_)
              refine pure_ (i := 0) (N := (some 32)) (v := ?_) (a' := ?_) #[true, false, false, false, false, false, false, false, false, false, false, false, false, false] rfl rfl (by kernel_rfl) (fun _ _ _ h => h) (Or.inl ⟨by rfl, ?_⟩) ?_ ?_
              rotate_left
              · intro w'
                go_simp
                with_reducible rfl
              rotate_left
              · simp only [Act.put, List.setIfInBounds_toArray, List.set_cons_zero, List.set_cons_succ, i64_w, i32_w]
                rfl
              refine pure_ (i := 1) (N := (some 33)) (v := ?_) (a' := ?_) #[true, true, false, false, false, false, false, false, false, false, false, false, false, false] rfl rfl (by kernel_rfl) (fun _ _ _ h => h) (Or.inl ⟨by rfl, ?_⟩) ?_ ?_
              rotate_left
              · intro w'
                go_simp
                with_reducible rfl
              rotate_left
              · simp only [Act.put, List.setIfInBounds_toArray, List.set_cons_zero, List.set_cons_succ, i64_w, i32_w]
                rfl
              refine pure_ (i := 2) (N := (some 34)) (v := ?_) (a' := ?_) #[true, true, true, false, false, false, false, false, false, false, false, false, false, false] rfl rfl (by kernel_rfl) (fun _ _ _ h => h) (Or.inl ⟨by rfl, ?_⟩) ?_ ?_
              rotate_left
              · intro w'
                go_simp
                with_reducible rfl
              rotate_left
              · simp only [Act.put, List.setIfInBounds_toArray, List.set_cons_zero, List.set_cons_succ, i64_w, i32_w]
                rfl
              refine pure_ (i := 3) (N := (some 35)) (v := ?_) (a' := ?_) #[true, true, true, true, false, false, false, false, false, false, false, false, false, false] rfl rfl (by kernel_rfl) (fun _ _ _ h => h) (Or.inl ⟨by rfl, ?_⟩) ?_ ?_
              rotate_left
              · intro w'
                go_simp
                with_reducible rfl
              rotate_left
              · simp only [Act.put, List.setIfInBounds_toArray, List.set_cons_zero, List.set_cons_succ, i64_w, i32_w]
                rfl
              refine pure_ (i := 4) (N := (some 36)) (v := ?_) (a' := ?_) #[true, true, true, true, true, false, false, false, false, false, false, false, false, false] rfl rfl (by kernel_rfl) (fun _ _ _ h => h) (Or.inl ⟨by rfl, ?_⟩) ?_ ?_
              rotate_left
              · intro w'
                go_simp
                with_reducible rfl
              rotate_left
              · simp only [Act.put, List.setIfInBounds_toArray, List.set_cons_zero, List.set_cons_succ, i64_w, i32_w]
                rfl
              refine pure_ (i := 5) (N := (some 37)) (v := ?_) (a' := ?_) #[true, true, true, true, true, true, false, false, false, false, false, false, false, false] rfl rfl (by kernel_rfl) (fun _ _ _ h => h) (Or.inl ⟨by rfl, ?_⟩) ?_ ?_
              rotate_left
              · intro w'
                go_simp
                with_reducible rfl
              rotate_left
              · simp only [Act.put, List.setIfInBounds_toArray, List.set_cons_zero, List.set_cons_succ, i64_w, i32_w]
                rfl
              refine pure_ (i := 6) (N := (some 38)) (v := ?_) (a' := ?_) #[true, true, true, true, true, true, true, false, false, false, false, false, false, false] rfl rfl (by kernel_rfl) (fun _ _ _ h => h) (Or.inl ⟨by rfl, ?_⟩) ?_ ?_
              rotate_left
              · intro w'
                go_simp
                with_reducible rfl
              rotate_left
              · simp only [Act.put, List.setIfInBounds_toArray, List.set_cons_zero, List.set_cons_succ, i64_w, i32_w]
                rfl
              refine pure_ (i := 7) (N := (some 39)) (v := ?_) (a' := ?_) #[true, true, true, true, true, true, true, true, false, false, false, false, false, false] rfl rfl (by kernel_rfl) (fun _ _ _ h => h) (Or.inl ⟨by rfl, ?_⟩) ?_ ?_
              rotate_left
              · intro w'
                go_simp
                with_reducible rfl
              rotate_left
              · simp only [Act.put, List.setIfInBounds_toArray, List.set_cons_zero, List.set_cons_succ, i64_w, i32_w]
                rfl
              refine pure_ (i := 8) (N := (some 40)) (v := ?_) (a' := ?_) #[true, true, true, true, true, true, true, true, true, false, false, false, false, false] rfl rfl (by kernel_rfl) (fun _ _ _ h => h) (Or.inl ⟨by rfl, ?_⟩) ?_ ?_
              rotate_left
              · intro w'
                go_simp
                with_reducible rfl
              rotate_left
              · simp only [Act.put, List.setIfInBounds_toArray, List.set_cons_zero, List.set_cons_succ, i64_w, i32_w]
                rfl
              refine take_ (i := 9) (N := (some 41)) (v := ?_) (a' := ?_) #[true, true, true, true, true, true, true, true, true, true, false, false, false, false] rfl rfl (by kernel_rfl) (fun _ _ _ h => h) (Or.inl ⟨by rfl, ?_⟩) hHeld ?_ ?_
              rotate_left
              · rintro w' ⟨s0, s1⟩
                go_simp
                with_reducible rfl
              rotate_left
              · simp only [Act.put, List.setIfInBounds_toArray, List.set_cons_zero, List.set_cons_succ, i64_w, i32_w]
                rfl
              refine pure_ (i := 10) (N := (some 42)) (v := ?_) (a' := ?_) #[true, true, true, true, true, true, true, true, true, true, true, false, false, false] rfl rfl (by kernel_rfl) (fun _ _ _ h => h) (Or.inl ⟨by rfl, ?_⟩) ?_ ?_
              rotate_left
              · intro w'
                go_simp
                with_reducible rfl
              rotate_left
              · simp only [Act.put, List.setIfInBounds_toArray, List.set_cons_zero, List.set_cons_succ, i64_w, i32_w]
                rfl
              refine take_ (i := 11) (N := (some 43)) (v := ?_) (a' := ?_) #[true, true, true, true, true, true, true, true, true, true, true, true, false, false] rfl rfl (by kernel_rfl) (fun _ _ _ h => h) (Or.inl ⟨by rfl, ?_⟩) hHeld ?_ ?_
              rotate_left
              · rintro w' ⟨s0, s1⟩
                go_simp
                with_reducible rfl
              rotate_left
              · simp only [Act.put, List.setIfInBounds_toArray, List.set_cons_zero, List.set_cons_succ, i64_w, i32_w]
                rfl
              refine pure_ (i := 12) (N := (some 44)) (v := ?_) (a' := ?_) #[true, true, true, true, true, true, true, true, true, true, true, true, true, false] rfl rfl (by kernel_rfl) (fun _ _ _ h => h) (Or.inl ⟨by rfl, ?_⟩) ?_ ?_
              rotate_left
              · intro w'
                go_simp
                with_reducible rfl
              rotate_left
              · simp only [Act.put, List.setIfInBounds_toArray, List.set_cons_zero, List.set_cons_succ, i64_w, i32_w]
                rfl
              refine pure_ (i := 13) (N := (some 45)) (v := ?_) (a' := ?_) #[true, true, true, true, true, true, true, true, true, true, true, true, true, true] rfl rfl (by kernel_rfl) (fun _ _ _ h => h) (Or.inl ⟨by rfl, ?_⟩) ?_ ?_
              rotate_left
              · intro w'
                go_simp
                with_reducible rfl
              rotate_left
              · simp only [Act.put, List.setIfInBounds_toArray, List.set_cons_zero, List.set_cons_succ, i64_w, i32_w]
                rfl
              refine done_ (by kernel_rfl) ?_
              have S4 := Aside0.mk (below_step S3.out (below_drew1 (Below.refl w3.heap.size w3)))
              generalize w3.drew = w4 at S4 ⊢
              have hit : ref_Make.hit out y = false := by
                unfold ref_Make.hit
                rw [← hn2.out, hz.out, he]
                simp
              clear S3 y0 c0 c1 c2 c3 c4 hz he
              have HIN : Aside0 (ref_Make.l (out.take n ++ [y] ++ out.drop n) (l.drop (i + 1)) = some r) := ⟨by have h_ := HI.out; rw [if_neg (by rw [hit]; simp), ← hn2.out] at h_; exact h_⟩
              clear HI hit hC2
              obtain ⟨Av, hAv⟩ : ∃ x, x = some ado := ⟨_, rfl⟩
              rw [← hAv] at HCV ⊢
              clear hAv
              go_upto_region 14 with (fail)
              have hnew4 := (S4.out.block _ (by have := blk_lt hnew.out; exact this)).trans hnew.out
              have hS : ∀ w', Below w4.heap.size w4 w' → w'.cell? ⟨wo.heap.size, 0, none⟩ = some (.string y.f0) ∧ w'.cell? ⟨wo.heap.size, 1, none⟩ = some (.int .i64 y.f1) ∧ w'.cell? ⟨wo.heap.size, 2, none⟩ = some (.int .i64 y.f2) ∧ w'.cell? ⟨wo.heap.size, 3, none⟩ = some (.int .i64 y.f3) ∧ w'.cell? ⟨wo.heap.size, 4, none⟩ = some (.string y.f4) := fun w' hw => ⟨pw_cell_below hw ((blk_cell hnew4 0).trans rfl), pw_cell_below hw ((blk_cell hnew4 1).trans rfl), pw_cell_below hw ((blk_cell hnew4 2).trans rfl), pw_cell_below hw ((blk_cell hnew4 3).trans rfl), pw_cell_below hw ((blk_cell hnew4 4).trans rfl)⟩
              obtain ⟨i0_, hi0_, hi1_⟩ := Option.map_eq_some_iff.1 info23
              have hsz0_ : i0_.size = 5 := by simp only [Prod.mk.injEq] at hi1_; exact hi1_.2.1
              have HCT := cut_to 25 23 .i64 Try.underlying25 hi0_ Av out.length cv (n : Int) (by omega) (by omega) (by omega)
              have HCF := cut_from 25 23 .i64 Try.underlying25 hi0_ 5 hsz0_ Av out.length cv (n : Int) (by omega) (by omega)
              simp only [Int.toNat_natCast] at HCT HCF
              have HCD := Aside0.mk (C_drop23 (m := n) (c := cv) HCV.out (by omega) hcv)
              have HCK := Aside0.mk (Kd.C_take (m := n) HCV.out (by omega))
              have hlt1 : (out.take n).length = n := by rw [List.length_take]; omega
              have hlt2 : (out.drop n).length = out.length - n := List.length_drop
              generalize (if cv = n then Av else Av.map (·.add (n * 5))) = A2 at HCF HCD
              have HL := Aside0.mk (And.intro hlt1 hlt2)
              clear hlt1 hlt2 hi0_ hi1_ hsz0_
              refine start_ (n := 13) (S := fun w' => w'.cell? ⟨wo.heap.size, 0, none⟩ = some (.string y.f0) ∧ w'.cell? ⟨wo.heap.size, 1, none⟩ = some (.int .i64 y.f1) ∧ w'.cell? ⟨wo.heap.size, 2, none⟩ = some (.int .i64 y.f2) ∧ w'.cell? ⟨wo.heap.size, 3, none⟩ = some (.int .i64 y.f3) ∧ w'.cell? ⟨wo.heap.size, 4, none⟩ = some (.string y.f4)) (ds := []) #[false, false, false, false, false, false, false, false, false, false, false, false, false] (by kernel_rfl) rfl rfl (hS _ (below_drew1 (Below.refl _ _))) (fun hHeld => ?_)
              have hW0 : Below w4.heap.size w4 w4.drew := below_drew1 (Below.refl _ _)
              have hSz := fun (W' : World) (hW : Below w4.drew.heap.size w4.drew W') => hS W' (below_step hW0 hW)
              have SB : Aside0 (Below wo.heap.size wo w4.drew) := ⟨below_step hbal.out (below_step S4.out hW0)⟩
              generalize w4.drew = W0 at hW0 hHeld hSz SB ⊢
              clear hS hnew4
              have hbase : w.heap.size ≤ W0.heap.size := by have := S1.out.size; have := SB.out.size; omega
              have HCK0 := Aside0.mk (Kd.C_below HCK.out SB.out)
              have HCD0 := Aside0.mk (Kd.C_below HCD.out SB.out)
              refine pure_ (i := 1) (N := (some 65)) (v := ?_) (a' := ?_) #[false, true, false, false, false, false, false, false, false, false, false, false, false] rfl rfl (by kernel_rfl) (fun _ _ _ h => h) (Or.inl ⟨by rfl, ?_⟩) ?_ ?_
              rotate_left
              · intro w'
                go_simp
                with_reducible rfl
              rotate_left
              · simp only [Act.put, List.setIfInBounds_toArray, List.set_cons_zero, List.set_cons_succ, i64_w, i32_w]
                rfl
              refine pure_ (i := 2) (N := (some 66)) (v := ?_) (a' := ?_) #[false, true, true, false, false, false, false, false, false, false, false, false, false] rfl rfl (by kernel_rfl) (fun _ _ _ h => h) (Or.inl ⟨by rfl, ?_⟩) ?_ ?_
              rotate_left
              · intro w'
                go_simp
                with_reducible rfl
              rotate_left
              · simp only [Act.put, List.setIfInBounds_toArray, List.set_cons_zero, List.set_cons_succ, i64_w, i32_w]
                rfl
              refine pure_ (i := 3) (N := (some 67)) (v := ?_) (a' := ?_) #[false, true, true, true, false, false, false, false, false, false, false, false, false] rfl rfl (by kernel_rfl) (fun _ _ _ h => h) (Or.inl ⟨by rfl, ?_⟩) ?_ ?_
              rotate_left
              · intro w'
                go_simp
                with_reducible rfl
              rotate_left
              · simp only [Act.put, List.setIfInBounds_toArray, List.set_cons_zero, List.set_cons_succ, i64_w, i32_w]
                rfl
              refine take_ (i := 5) (N := (some 69)) (v := ?_) (a' := ?_) #[false, true, true, true, false, true, false, false, false, false, false, false, false] rfl rfl (by kernel_rfl) (fun _ _ _ h => h) (Or.inl ⟨by rfl, ?_⟩) hHeld ?_ ?_
              rotate_left
              · rintro w' ⟨s0, s1, s2, s3, s4⟩
                go_simp
                with_reducible rfl
              rotate_left
              · simp only [Act.put, List.setIfInBounds_toArray, List.set_cons_zero, List.set_cons_succ, i64_w, i32_w]
                rfl
              refine pure_ (i := 8) (N := (some 72)) (v := ?_) (a' := ?_) #[false, true, true, true, false, true, false, false, true, false, false, false, false] rfl rfl (by kernel_rfl) (fun _ _ _ h => h) (Or.inl ⟨by rfl, ?_⟩) ?_ ?_
              rotate_left
              · intro w'
                go_simp
                with_reducible rfl
              rotate_left
              · simp only [Act.put, List.setIfInBounds_toArray, List.set_cons_zero, List.set_cons_succ, i64_w, i32_w]
                rfl
              refine pure_ (i := 9) (N := (some 73)) (v := ?_) (a' := ?_) #[false, true, true, true, false, true, false, false, true, true, false, false, false] rfl rfl (by kernel_rfl) (fun _ _ _ h => h) (Or.inl ⟨by rfl, ?_⟩) ?_ ?_
              rotate_left
              · intro w'
                go_simp
                with_reducible rfl
              rotate_left
              · simp only [Act.put, List.setIfInBounds_toArray, List.set_cons_zero, List.set_cons_succ, i64_w, i32_w]
                rfl
              refine pure_ (i := 10) (N := (some 74)) (v := ?_) (a' := ?_) #[false, true, true, true, false, true, false, false, true, true, true, false, false] rfl rfl (by kernel_rfl) (fun _ _ _ h => h) (Or.inl ⟨by rfl, ?_⟩) ?_ ?_
              rotate_left
              · intro w'
                go_simp
                with_reducible rfl
              rotate_left
              · simp only [Act.put, List.setIfInBounds_toArray, List.set_cons_zero, List.set_cons_succ, i64_w, i32_w]
                rfl
              refine join_ (σ := Nat × Value × Value) 3 #[true, true, true, true, true, true, true, false, true, true, true, false, false] (fun s => [(64, .slice (some ⟨s.1, 0, none⟩) 0 0), (68, s.2.1), (70, s.2.2)]) (fun s W' => JR W0 w.heap.size (out.take n) y s.2.1 s.2.2 W') ?_ ?_
              rotate_left
              · intro hJ
                refine two_ (i := 0) (j := 6) (Ni := some 64) (Nj := some 70) #[true, true, true, true, false, true, false, false, true, true, true, false, false] #[false, true, true, true, false, true, true, false, true, true, true, false, false] rfl rfl rfl rfl (by kernel_rfl) (by decide) (by decide) (fun K hK => ?_) (fun K hK => ?_)
                · skip
                  refine value_ (w1 := W0.alloc (.cells #[] 23)) (v := .slice (some ⟨W0.heap.size, 0, none⟩) 0 0) (by rfl) rfl (by go_simp) ?_
                  refine hK.out _ _ (hSz _ (below_alloc (Below.refl _ _) _)) (fun hHeld => ?_)
                  clear hK K
                  refine norm_ (a' := ?_) ?_ ?_
                  rotate_left
                  · show Act.put _ (some 64) _ = _
                    simp only [Act.put, List.setIfInBounds_toArray, List.set_cons_zero, List.set_cons_succ, i64_w, i32_w]
                    rfl
                  refine two_ (i := 4) (j := 6) (Ni := some 68) (Nj := some 70) #[true, true, true, true, true, true, false, false, true, true, true, false, false] #[true, true, true, true, false, true, true, false, true, true, true, false, false] rfl rfl rfl rfl (by kernel_rfl) (by decide) (by decide) (fun K hK => ?_) (fun K hK => ?_)
                  · skip
                    obtain ⟨v1, w1, hrun, hrow, hbel, hfr, hkeep, hsz⟩ := jr_one (c := cv) (g81 := W0.heap.size) (ds := out.take n) (below_alloc (Below.refl W0.heap.size W0) _) hbase (heap_alloc_new W0 _) (Nat.le_refl _) (Kd.C_below HCK0.out (below_alloc (Below.refl W0.heap.size W0) _)) (by rw [HL.out.1]; omega)
                    rw [HL.out.1] at hrun
                    refine step_app23 (by rfl) rfl (.tmp 64) (.tmp 67) rfl rfl (by rfl) (by rfl) hrun ?_
                    refine hK.out _ _ (hSz _ (hbel)) (fun hHeld => ?_)
                    clear hK K
                    refine norm_ (a' := ?_) ?_ ?_
                    rotate_left
                    · show Act.put _ (some 68) _ = _
                      simp only [Act.put, List.setIfInBounds_toArray, List.set_cons_zero, List.set_cons_succ, i64_w, i32_w]
                      rfl
                    refine one_ (i := 6) (N := (some 70)) #[true, true, true, true, true, true, true, false, true, true, true, false, false] rfl rfl (by kernel_rfl) (by decide) (fun K hK => ?_)
                    refine value_ (w1 := w1.alloc (.cells #[.string y.f0, .int .i64 y.f1, .int .i64 y.f2, .int .i64 y.f3, .string y.f4] 23)) (v := .slice (some ⟨w1.heap.size, 0, none⟩) 1 1) (by rfl) rfl (by go_simp) ?_
                    refine hK.out _ _ (hSz _ (below_alloc hbel _)) (fun hHeld => ?_)
                    clear hK K
                    refine norm_ (a' := ?_) ?_ ?_
                    rotate_left
                    · show Act.put _ (some 70) _ = _
                      simp only [Act.put, List.setIfInBounds_toArray, List.set_cons_zero, List.set_cons_succ, i64_w, i32_w]
                      rfl
                    have h := hJ (W0.heap.size, v1, .slice (some ⟨w1.heap.size, 0, none⟩) 1 1) _ (jr_late hrow hbel hfr)
                    simp only [putAll, Act.put, List.setIfInBounds_toArray, List.set_cons_zero, List.set_cons_succ] at h
                    exact h
                  · skip
                    have hh := heap_alloc_new W0 (.cells #[] 23)
                    refine value_ (w1 := (W0.alloc (.cells #[] 23)).alloc (.cells #[.string y.f0, .int .i64 y.f1, .int .i64 y.f2, .int .i64 y.f3, .string y.f4] 23)) (v := .slice (some ⟨(W0.alloc (.cells #[] 23)).heap.size, 0, none⟩) 1 1) (by rfl) rfl (by go_simp) ?_
                    refine hK.out _ _ (hSz _ (below_alloc (below_alloc (Below.refl _ _) _) _)) (fun hHeld => ?_)
                    clear hK K
                    refine norm_ (a' := ?_) ?_ ?_
                    rotate_left
                    · show Act.put _ (some 70) _ = _
                      simp only [Act.put, List.setIfInBounds_toArray, List.set_cons_zero, List.set_cons_succ, i64_w, i32_w]
                      rfl
                    refine one_ (i := 4) (N := (some 68)) #[true, true, true, true, true, true, true, false, true, true, true, false, false] rfl rfl (by kernel_rfl) (by decide) (fun K hK => ?_)
                    obtain ⟨v1, w1, hrun, hrow, hbel, hfr, hkeep, hsz⟩ := jr_one (c := cv) (g81 := W0.heap.size) (ds := out.take n) (below_alloc (below_alloc (Below.refl W0.heap.size W0) (.cells #[] 23)) (.cells #[.string y.f0, .int .i64 y.f1, .int .i64 y.f2, .int .i64 y.f3, .string y.f4] 23)) hbase (pred_Both.up (heap_alloc_new W0 _) _) (Nat.le_refl _) (Kd.C_below HCK0.out (below_alloc (below_alloc (Below.refl W0.heap.size W0) (.cells #[] 23)) (.cells #[.string y.f0, .int .i64 y.f1, .int .i64 y.f2, .int .i64 y.f3, .string y.f4] 23))) (by rw [HL.out.1]; omega)
                    rw [HL.out.1] at hrun
                    refine step_app23 (by rfl) rfl (.tmp 64) (.tmp 67) rfl rfl (by rfl) (by rfl) hrun ?_
                    refine hK.out _ _ (hSz _ (hbel)) (fun hHeld => ?_)
                    clear hK K
                    refine norm_ (a' := ?_) ?_ ?_
                    rotate_left
                    · show Act.put _ (some 68) _ = _
                      simp only [Act.put, List.setIfInBounds_toArray, List.set_cons_zero, List.set_cons_succ, i64_w, i32_w]
                      rfl
                    have h := hJ (W0.heap.size, v1, .slice (some ⟨(W0.alloc (.cells #[] 23)).heap.size, 0, none⟩) 1 1) _ (jr_early hrow hbel hfr hkeep (heap_alloc_new (W0.alloc (.cells #[] 23)) (.cells #[.string y.f0, .int .i64 y.f1, .int .i64 y.f2, .int .i64 y.f3, .string y.f4] 23)) (by simp) (by simp))
                    simp only [putAll, Act.put, List.setIfInBounds_toArray, List.set_cons_zero, List.set_cons_succ] at h
                    exact h
                · skip
                  refine value_ (w1 := W0.alloc (.cells #[.string y.f0, .int .i64 y.f1, .int .i64 y.f2, .int .i64 y.f3, .string y.f4] 23)) (v := .slice (some ⟨W0.heap.size, 0, none⟩) 1 1) (by rfl) rfl (by go_simp) ?_
                  refine hK.out _ _ (hSz _ (below_alloc (Below.refl _ _) _)) (fun hHeld => ?_)
                  clear hK K
                  refine norm_ (a' := ?_) ?_ ?_
                  rotate_left
                  · show Act.put _ (some 70) _ = _
                    simp only [Act.put, List.setIfInBounds_toArray, List.set_cons_zero, List.set_cons_succ, i64_w, i32_w]
                    rfl
                  refine one_ (i := 0) (N := (some 64)) #[true, true, true, true, false, true, true, false, true, true, true, false, false] rfl rfl (by kernel_rfl) (by decide) (fun K hK => ?_)
                  refine value_ (w1 := (W0.alloc (.cells #[.string y.f0, .int .i64 y.f1, .int .i64 y.f2, .int .i64 y.f3, .string y.f4] 23)).alloc (.cells #[] 23)) (v := .slice (some ⟨(W0.alloc (.cells #[.string y.f0, .int .i64 y.f1, .int .i64 y.f2, .int .i64 y.f3, .string y.f4] 23)).heap.size, 0, none⟩) 0 0) (by rfl) rfl (by go_simp) ?_
                  refine hK.out _ _ (hSz _ (below_alloc (below_alloc (Below.refl _ _) _) _)) (fun hHeld => ?_)
                  clear hK K
                  refine norm_ (a' := ?_) ?_ ?_
                  rotate_left
                  · show Act.put _ (some 64) _ = _
                    simp only [Act.put, List.setIfInBounds_toArray, List.set_cons_zero, List.set_cons_succ, i64_w, i32_w]
                    rfl
                  refine one_ (i := 4) (N := (some 68)) #[true, true, true, true, true, true, true, false, true, true, true, false, false] rfl rfl (by kernel_rfl) (by decide) (fun K hK => ?_)
                  obtain ⟨v1, w1, hrun, hrow, hbel, hfr, hkeep, hsz⟩ := jr_one (c := cv) (g81 := (W0.alloc (.cells #[.string y.f0, .int .i64 y.f1, .int .i64 y.f2, .int .i64 y.f3, .string y.f4] 23)).heap.size) (ds := out.take n) (below_alloc (below_alloc (Below.refl W0.heap.size W0) (.cells #[.string y.f0, .int .i64 y.f1, .int .i64 y.f2, .int .i64 y.f3, .string y.f4] 23)) (.cells #[] 23)) hbase (heap_alloc_new (W0.alloc (.cells #[.string y.f0, .int .i64 y.f1, .int .i64 y.f2, .int .i64 y.f3, .string y.f4] 23)) (.cells #[] 23)) (by simp) (Kd.C_below HCK0.out (below_alloc (below_alloc (Below.refl W0.heap.size W0) (.cells #[.string y.f0, .int .i64 y.f1, .int .i64 y.f2, .int .i64 y.f3, .string y.f4] 23)) (.cells #[] 23))) (by rw [HL.out.1]; omega)
                  rw [HL.out.1] at hrun
                  refine step_app23 (by rfl) rfl (.tmp 64) (.tmp 67) rfl rfl (by rfl) (by rfl) hrun ?_
                  refine hK.out _ _ (hSz _ (hbel)) (fun hHeld => ?_)
                  clear hK K
                  refine norm_ (a' := ?_) ?_ ?_
                  rotate_left
                  · show Act.put _ (some 68) _ = _
                    simp only [Act.put, List.setIfInBounds_toArray, List.set_cons_zero, List.set_cons_succ, i64_w, i32_w]
                    rfl
                  have h := hJ ((W0.alloc (.cells #[.string y.f0, .int .i64 y.f1, .int .i64 y.f2, .int .i64 y.f3, .string y.f4] 23)).heap.size, v1, .slice (some ⟨W0.heap.size, 0, none⟩) 1 1) _ (jr_early hrow hbel hfr hkeep (pred_Both.up (heap_alloc_new W0 _) _) (Nat.le_refl _) (by simp))
                  simp only [putAll, Act.put, List.setIfInBounds_toArray, List.set_cons_zero, List.set_cons_succ] at h
                  exact h
              rintro ⟨g64, v68, v70⟩ W1 hJR
              refine norm_ (a' := ?_) ?_ ?_
              rotate_left
              · simp only [putAll, Act.put, List.setIfInBounds_toArray, List.set_cons_zero, List.set_cons_succ]
                rfl
              replace hJR : JR W0 w.heap.size (out.take n) y v68 v70 W1 := hJR
              refine one_ (i := 7) (N := (some 71)) #[true, true, true, true, true, true, true, true, true, true, true, false, false] rfl rfl (by kernel_rfl) (by decide) (fun K hK => ?_)
              obtain ⟨v71, W2, hrun, hrow, hbel, hfr⟩ := jr_two hJR hbase (by rw [HL.out.1]; omega)
              refine step_app23 (by rfl) rfl (.tmp 68) (.tmp 70) rfl rfl (by rfl) (by rfl) hrun ?_
              refine hK.out _ _ (hSz _ (hbel)) (fun hHeld => ?_)
              clear hK K
              refine norm_ (a' := ?_) ?_ ?_
              rotate_left
              · show Act.put _ (some 71) _ = _
                simp only [Act.put, List.setIfInBounds_toArray, List.set_cons_zero, List.set_cons_succ, i64_w, i32_w]
                rfl
              clear hJR hrun
              refine one_ (i := 11) (N := (some 75)) #[true, true, true, true, true, true, true, true, true, true, true, true, false] rfl rfl (by kernel_rfl) (by decide) (fun K hK => ?_)
              obtain ⟨v75, W3, hrun, hrow3, hbel3⟩ := jr_three (c := cv - n) hrow hbel hfr HCD0.out hbase (by simp only [List.length_append, HL.out.1, HL.out.2, List.length_singleton]; omega)
              rw [HL.out.2] at hrun
              refine step_app23 (by rfl) rfl (.tmp 71) (.tmp 74) rfl rfl (by rfl) (by rfl) hrun ?_
              refine hK.out _ _ (hSz _ (hbel3)) (fun hHeld => ?_)
              clear hK K
              refine norm_ (a' := ?_) ?_ ?_
              rotate_left
              · show Act.put _ (some 75) _ = _
                simp only [Act.put, List.setIfInBounds_toArray, List.set_cons_zero, List.set_cons_succ, i64_w, i32_w]
                rfl
              clear hrun
              refine pure_ (i := 12) (N := (some 4)) (v := ?_) (a' := ?_) #[true, true, true, true, true, true, true, true, true, true, true, true, true] rfl rfl (by kernel_rfl) (fun _ _ _ h => h) (Or.inl ⟨by rfl, ?_⟩) ?_ ?_
              rotate_left
              · intro w'
                go_simp
                with_reducible rfl
              rotate_left
              · simp only [Act.put, List.setIfInBounds_toArray, List.set_cons_zero, List.set_cons_succ, i64_w, i32_w]
                rfl
              refine done_ (by kernel_rfl) ?_
              have HR3 := Aside0.mk hrow3
              have HBF : Aside0 (Below w.heap.size w W3) := ⟨below_step S1.out (below_step SB.out hbel3)⟩
              clear hrow3 hbel3 hrow hbel hfr hHeld hSz hW0
              have hln : Aside0 ((out.take n ++ [y] ++ out.drop n).length = out.length + 1) := ⟨by simp only [List.length_append, HL.out.1, HL.out.2, List.length_singleton]; omega⟩
              go_wp2
              go_roundw
              case rel => exact ⟨i + 1, out.take n ++ [y] ++ out.drop n, by omega, by go_num, HR3, by rw [hln.out]; omega, HIN, HBF⟩
              case measure => simp [intOf]; omega
        · have hn2 : Aside0 (n = wlen out y.f0) := ⟨by omega⟩
          have hd : decide ((n : Int) < (out.length : Int)) = false := by simp; omega
          go_upto_region 6 with (fail)
          refine start_ (n := 14) (S := fun w' => True) (ds := []) #[false, false, false, false, false, false, false, false, false, false, false, false, false, false] (by kernel_rfl) rfl rfl trivial (fun hHeld => ?_)
          refine pure_ (i := 0) (N := (some 16)) (v := ?_) (a' := ?_) #[true, false, false, false, false, false, false, false, false, false, false, false, false, false] rfl rfl (by kernel_rfl) (fun _ _ _ h => h) (Or.inl ⟨by rfl, ?_⟩) ?_ ?_
          rotate_left
          · intro w'
            go_simp
            with_reducible rfl
          rotate_left
          · simp only [Act.put, List.setIfInBounds_toArray, List.set_cons_zero, List.set_cons_succ, i64_w, i32_w]
            rfl
          refine pure_ (i := 1) (N := (some 17)) (v := ?_) (a' := ?_) #[true, true, false, false, false, false, false, false, false, false, false, false, false, false] rfl rfl (by kernel_rfl) (fun _ _ _ h => h) (Or.inl ⟨by rfl, ?_⟩) ?_ ?_
          rotate_left
          · intro w'
            go_simp
            with_reducible rfl
          rotate_left
          · simp only [Act.put, List.setIfInBounds_toArray, List.set_cons_zero, List.set_cons_succ, i64_w, i32_w]
            rfl
          refine pure_ (i := 2) (N := (some 18)) (v := ?_) (a' := ?_) #[true, true, true, false, false, false, false, false, false, false, false, false, false, false] rfl rfl (by kernel_rfl) (fun _ _ _ h => h) (Or.inl ⟨by rfl, ?_⟩) ?_ ?_
          rotate_left
          · intro w'
            go_simp
            with_reducible rfl
          rotate_left
          · simp only [Act.put, List.setIfInBounds_toArray, List.set_cons_zero, List.set_cons_succ, i64_w, i32_w]
            rfl
          refine pure_ (i := 3) (N := (some 19)) (v := ?_) (a' := ?_) #[true, true, true, true, false, false, false, false, false, false, false, false, false, false] rfl rfl (by kernel_rfl) (fun _ _ _ h => h) (Or.inl ⟨by rfl, ?_⟩) ?_ ?_
          rotate_left
          · intro w'
            go_simp
            with_reducible rfl
          rotate_left
          · simp only [Act.put, List.setIfInBounds_toArray, List.set_cons_zero, List.set_cons_succ, i64_w, i32_w]
            rfl
          refine pure_ (i := 4) (N := (some 20)) (v := ?_) (a' := ?_) #[true, true, true, true, true, false, false, false, false, false, false, false, false, false] rfl rfl (by kernel_rfl) (fun _ _ _ h => h) (Or.inl ⟨by rfl, ?_⟩) ?_ ?_
          rotate_left
          · intro w'
            go_simp
            with_reducible rfl
          rotate_left
          · simp only [Act.put, List.setIfInBounds_toArray, List.set_cons_zero, List.set_cons_succ, i64_w, i32_w]
            rfl
          refine pure_ (i := 5) (N := (some 21)) (v := undef) (a' := ?_) #[true, true, true, true, true, true, false, false, false, false, false, false, false, false] rfl rfl (by kernel_rfl) (fun _ _ _ h => h) (Or.inr ⟨by rfl, rfl⟩) ?_ ?_
          rotate_left
          · simp only [Act.put, List.setIfInBounds_toArray, List.set_cons_zero, List.set_cons_succ, i64_w, i32_w]
            rfl
          refine pure_ (i := 6) (N := (some 22)) (v := undef) (a' := ?_) #[true, true, true, true, true, true, true, false, false, false, false, false, false, false] rfl rfl (by kernel_rfl) (fun _ _ _ h => h) (Or.inr ⟨by rfl, rfl⟩) ?_ ?_
          rotate_left
          · simp only [Act.put, List.setIfInBounds_toArray, List.set_cons_zero, List.set_cons_succ, i64_w, i32_w]
            rfl
          refine pure_ (i := 7) (N := (some 23)) (v := undef) (a' := ?_) #[true, true, true, true, true, true, true, true, false, false, false, false, false, false] rfl rfl (by kernel_rfl) (fun _ _ _ h => h) (Or.inr ⟨by rfl, rfl⟩) ?_ ?_
          rotate_left
          · simp only [Act.put, List.setIfInBounds_toArray, List.set_cons_zero, List.set_cons_succ, i64_w, i32_w]
            rfl
          refine pure_ (i := 8) (N := (some 24)) (v := undef) (a' := ?_) #[true, true, true, true, true, true, true, true, true, false, false, false, false, false] rfl rfl (by kernel_rfl) (fun _ _ _ h => h) (Or.inr ⟨by rfl, rfl⟩) ?_ ?_
          rotate_left
          · simp only [Act.put, List.setIfInBounds_toArray, List.set_cons_zero, List.set_cons_succ, i64_w, i32_w]
            rfl
          refine pure_ (i := 9) (N := (some 25)) (v := undef) (a' := ?_) #[true, true, true, true, true, true, true, true, true, true, false, false, false, false] rfl rfl (by kernel_rfl) (fun _ _ _ h => h) (Or.inr ⟨by rfl, rfl⟩) ?_ ?_
          rotate_left
          · simp only [Act.put, List.setIfInBounds_toArray, List.set_cons_zero, List.set_cons_succ, i64_w, i32_w]
            rfl
          refine pure_ (i := 10) (N := (some 26)) (v := undef) (a' := ?_) #[true, true, true, true, true, true, true, true, true, true, true, false, false, false] rfl rfl (by kernel_rfl) (fun _ _ _ h => h) (Or.inr ⟨by rfl, rfl⟩) ?_ ?_
          rotate_left
          · simp only [Act.put, List.setIfInBounds_toArray, List.set_cons_zero, List.set_cons_succ, i64_w, i32_w]
            rfl
          refine pure_ (i := 11) (N := (some 27)) (v := undef) (a' := ?_) #[true, true, true, true, true, true, true, true, true, true, true, true, false, false] rfl rfl (by kernel_rfl) (fun _ _ _ h => h) (Or.inr ⟨by rfl, rfl⟩) ?_ ?_
          rotate_left
          · simp only [Act.put, List.setIfInBounds_toArray, List.set_cons_zero, List.set_cons_succ, i64_w, i32_w]
            rfl
          refine pure_ (i := 12) (N := (some 28)) (v := undef) (a' := ?_) #[true, true, true, true, true, true, true, true, true, true, true, true, true, false] rfl rfl (by kernel_rfl) (fun _ _ _ h => h) (Or.inr ⟨by rfl, rfl⟩) ?_ ?_
          rotate_left
          · simp only [Act.put, List.setIfInBounds_toArray, List.set_cons_zero, List.set_cons_succ, i64_w, i32_w]
            rfl
          refine pure_ (i := 13) (N := (some 29)) (v := ?_) (a' := ?_) #[true, true, true, true, true, true, true, true, true, true, true, true, true, true] rfl rfl (by kernel_rfl) (fun _ _ _ h => h) (Or.inl ⟨by rfl, ?_⟩) ?_ ?_
          rotate_left
          · intro w'
            go_simp
            with_reducible rfl
          rotate_left
          · simp only [Act.put, List.setIfInBounds_toArray, List.set_cons_zero, List.set_cons_succ, i64_w, i32_w]
            rfl
          refine done_ (by kernel_rfl) ?_
          have S3 := Aside0.mk (below_step S2.out (below_drew1 (Below.refl wr.heap.size wr)))
          generalize wr.drew = w3 at S3 ⊢
          clear S2 y0
          go_upto_region 8 with (fail)
          refine start_ (n := 14) (S := fun w' => True) (ds := []) #[false, false, false, false, false, false, false, false, false, false, false, false, false, false] (by kernel_rfl) rfl rfl trivial (fun hHeld => ?_)
          refine pure_ (i := 0) (N := (some 32)) (v := ?_) (a' := ?_) #[true, false, false, false, false, false, false, false, false, false, false, false, false, false] rfl rfl (by kernel_rfl) (fun _ _ _ h => h) (Or.inl ⟨by rfl, ?_⟩) ?_ ?_
          rotate_left
          · intro w'
            go_simp
            with_reducible rfl
          rotate_left
          · simp only [Act.put, List.setIfInBounds_toArray, List.set_cons_zero, List.set_cons_succ, i64_w, i32_w]
            rfl
          refine pure_ (i := 1) (N := (some 33)) (v := ?_) (a' := ?_) #[true, true, false, false, false, false, false, false, false, false, false, false, false, false] rfl rfl (by kernel_rfl) (fun _ _ _ h => h) (Or.inl ⟨by rfl, ?_⟩) ?_ ?_
          rotate_left
          · intro w'
            go_simp
            with_reducible rfl
          rotate_left
          · simp only [Act.put, List.setIfInBounds_toArray, List.set_cons_zero, List.set_cons_succ, i64_w, i32_w]
            rfl
          refine pure_ (i := 2) (N := (some 34)) (v := ?_) (a' := ?_) #[true, true, true, false, false, false, false, false, false, false, false, false, false, false] rfl rfl (by kernel_rfl) (fun _ _ _ h => h) (Or.inl ⟨by rfl, ?_⟩) ?_ ?_
          rotate_left
          · intro w'
            go_simp
            with_reducible rfl
          rotate_left
          · simp only [Act.put, List.setIfInBounds_toArray, List.set_cons_zero, List.set_cons_succ, i64_w, i32_w]
            rfl
          refine pure_ (i := 3) (N := (some 35)) (v := ?_) (a' := ?_) #[true, true, true, true, false, false, false, false, false, false, false, false, false, false] rfl rfl (by kernel_rfl) (fun _ _ _ h => h) (Or.inl ⟨by rfl, ?_⟩) ?_ ?_
          rotate_left
          · intro w'
            go_simp
            with_reducible rfl
          rotate_left
          · simp only [Act.put, List.setIfInBounds_toArray, List.set_cons_zero, List.set_cons_succ, i64_w, i32_w]
            rfl
          refine pure_ (i := 4) (N := (some 36)) (v := ?_) (a' := ?_) #[true, true, true, true, true, false, false, false, false, false, false, false, false, false] rfl rfl (by kernel_rfl) (fun _ _ _ h => h) (Or.inl ⟨by rfl, ?_⟩) ?_ ?_
          rotate_left
          · intro w'
            go_simp
            with_reducible rfl
          rotate_left
          · simp only [Act.put, List.setIfInBounds_toArray, List.set_cons_zero, List.set_cons_succ, i64_w, i32_w]
            rfl
          refine pure_ (i := 5) (N := (some 37)) (v := undef) (a' := ?_) #[true, true, true, true, true, true, false, false, false, false, false, false, false, false] rfl rfl (by kernel_rfl) (fun _ _ _ h => h) (Or.inr ⟨by rfl, rfl⟩) ?_ ?_
          rotate_left
          · simp only [Act.put, List.setIfInBounds_toArray, List.set_cons_zero, List.set_cons_succ, i64_w, i32_w]
            rfl
          refine pure_ (i := 6) (N := (some 38)) (v := undef) (a' := ?_) #[true, true, true, true, true, true, true, false, false, false, false, false, false, false] rfl rfl (by kernel_rfl) (fun _ _ _ h => h) (Or.inr ⟨by rfl, rfl⟩) ?_ ?_
          rotate_left
          · simp only [Act.put, List.setIfInBounds_toArray, List.set_cons_zero, List.set_cons_succ, i64_w, i32_w]
            rfl
          refine pure_ (i := 7) (N := (some 39)) (v := undef) (a' := ?_) #[true, true, true, true, true, true, true, true, false, false, false, false, false, false] rfl rfl (by kernel_rfl) (fun _ _ _ h => h) (Or.inr ⟨by rfl, rfl⟩) ?_ ?_
          rotate_left
          · simp only [Act.put, List.setIfInBounds_toArray, List.set_cons_zero, List.set_cons_succ, i64_w, i32_w]
            rfl
          refine pure_ (i := 8) (N := (some 40)) (v := undef) (a' := ?_) #[true, true, true, true, true, true, true, true, true, false, false, false, false, false] rfl rfl (by kernel_rfl) (fun _ _ _ h => h) (Or.inr ⟨by rfl, rfl⟩) ?_ ?_
          rotate_left
          · simp only [Act.put, List.setIfInBounds_toArray, List.set_cons_zero, List.set_cons_succ, i64_w, i32_w]
            rfl
          refine pure_ (i := 9) (N := (some 41)) (v := undef) (a' := ?_) #[true, true, true, true, true, true, true, true, true, true, false, false, false, false] rfl rfl (by kernel_rfl) (fun _ _ _ h => h) (Or.inr ⟨by rfl, rfl⟩) ?_ ?_
          rotate_left
          · simp only [Act.put, List.setIfInBounds_toArray, List.set_cons_zero, List.set_cons_succ, i64_w, i32_w]
            rfl
          refine pure_ (i := 10) (N := (some 42)) (v := undef) (a' := ?_) #[true, true, true, true, true, true, true, true, true, true, true, false, false, false] rfl rfl (by kernel_rfl) (fun _ _ _ h => h) (Or.inr ⟨by rfl, rfl⟩) ?_ ?_
          rotate_left
          · simp only [Act.put, List.setIfInBounds_toArray, List.set_cons_zero, List.set_cons_succ, i64_w, i32_w]
            rfl
          refine pure_ (i := 11) (N := (some 43)) (v := undef) (a' := ?_) #[true, true, true, true, true, true, true, true, true, true, true, true, false, false] rfl rfl (by kernel_rfl) (fun _ _ _ h => h) (Or.inr ⟨by rfl, rfl⟩) ?_ ?_
          rotate_left
          · simp only [Act.put, List.setIfInBounds_toArray, List.set_cons_zero, List.set_cons_succ, i64_w, i32_w]
            rfl
          refine pure_ (i := 12) (N := (some 44)) (v := undef) (a' := ?_) #[true, true, true, true, true, true, true, true, true, true, true, true, true, false] rfl rfl (by kernel_rfl) (fun _ _ _ h => h) (Or.inr ⟨by rfl, rfl⟩) ?_ ?_
          rotate_left
          · simp only [Act.put, List.setIfInBounds_toArray, List.set_cons_zero, List.set_cons_succ, i64_w, i32_w]
            rfl
          refine pure_ (i := 13) (N := (some 45)) (v := ?_) (a' := ?_) #[true, true, true, true, true, true, true, true, true, true, true, true, true, true] rfl rfl (by kernel_rfl) (fun _ _ _ h => h) (Or.inl ⟨by rfl, ?_⟩) ?_ ?_
          rotate_left
          · intro w'
            go_simp
            with_reducible rfl
          rotate_left
          · simp only [Act.put, List.setIfInBounds_toArray, List.set_cons_zero, List.set_cons_succ, i64_w, i32_w]
            rfl
          refine done_ (by kernel_rfl) ?_
          have S4 := Aside0.mk (below_step S3.out (below_drew1 (Below.refl w3.heap.size w3)))
          generalize w3.drew = w4 at S4 ⊢
          have hit : ref_Make.hit out y = false := by
            unfold ref_Make.hit
            rw [← hn2.out, decide_eq_false hno]
            rfl
          clear S3
          have HIN : Aside0 (ref_Make.l (out.take n ++ [y] ++ out.drop n) (l.drop (i + 1)) = some r) := ⟨by have h_ := HI.out; rw [if_neg (by rw [hit]; simp), ← hn2.out] at h_; exact h_⟩
          clear HI hit hC2
          go_upto_region 14 with (fail)
          have hnew4 := (S4.out.block _ (by have := blk_lt hnew.out; exact this)).trans hnew.out
          have hS : ∀ w', Below w4.heap.size w4 w' → w'.cell? ⟨wo.heap.size, 0, none⟩ = some (.string y.f0) ∧ w'.cell? ⟨wo.heap.size, 1, none⟩ = some (.int .i64 y.f1) ∧ w'.cell? ⟨wo.heap.size, 2, none⟩ = some (.int .i64 y.f2) ∧ w'.cell? ⟨wo.heap.size, 3, none⟩ = some (.int .i64 y.f3) ∧ w'.cell? ⟨wo.heap.size, 4, none⟩ = some (.string y.f4) := fun w' hw => ⟨pw_cell_below hw ((blk_cell hnew4 0).trans rfl), pw_cell_below hw ((blk_cell hnew4 1).trans rfl), pw_cell_below hw ((blk_cell hnew4 2).trans rfl), pw_cell_below hw ((blk_cell hnew4 3).trans rfl), pw_cell_below hw ((blk_cell hnew4 4).trans rfl)⟩
          obtain ⟨i0_, hi0_, hi1_⟩ := Option.map_eq_some_iff.1 info23
          have hsz0_ : i0_.size = 5 := by simp only [Prod.mk.injEq] at hi1_; exact hi1_.2.1
          have HCT := cut_to 25 23 .i64 Try.underlying25 hi0_ Av out.length cv (n : Int) (by omega) (by omega) (by omega)
          have HCF := cut_from 25 23 .i64 Try.underlying25 hi0_ 5 hsz0_ Av out.length cv (n : Int) (by omega) (by omega)
          simp only [Int.toNat_natCast] at HCT HCF
          have HCD := Aside0.mk (C_drop23 (m := n) (c := cv) HCV.out (by omega) hcv)
          have HCK := Aside0.mk (Kd.C_take (m := n) HCV.out (by omega))
          have hlt1 : (out.take n).length = n := by rw [List.length_take]; omega
          have hlt2 : (out.drop n).length = out.length - n := List.length_drop
          generalize (if cv = n then Av else Av.map (·.add (n * 5))) = A2 at HCF HCD
          have HL := Aside0.mk (And.intro hlt1 hlt2)
          clear hlt1 hlt2 hi0_ hi1_ hsz0_
          refine start_ (n := 13) (S := fun w' => w'.cell? ⟨wo.heap.size, 0, none⟩ = some (.string y.f0) ∧ w'.cell? ⟨wo.heap.size, 1, none⟩ = some (.int .i64 y.f1) ∧ w'.cell? ⟨wo.heap.size, 2, none⟩ = some (.int .i64 y.f2) ∧ w'.cell? ⟨wo.heap.size, 3, none⟩ = some (.int .i64 y.f3) ∧ w'.cell? ⟨wo.heap.size, 4, none⟩ = some (.string y.f4)) (ds := []) #[false, false, false, false, false, false, false, false, false, false, false, false, false] (by kernel_rfl) rfl rfl (hS _ (below_drew1 (Below.refl _ _))) (fun hHeld => ?_)
          have hW0 : Below w4.heap.size w4 w4.drew := below_drew1 (Below.refl _ _)
          have hSz := fun (W' : World) (hW : Below w4.drew.heap.size w4.drew W') => hS W' (below_step hW0 hW)
          have SB : Aside0 (Below wo.heap.size wo w4.drew) := ⟨below_step hbal.out (below_step S4.out hW0)⟩
          generalize w4.drew = W0 at hW0 hHeld hSz SB ⊢
          clear hS hnew4
          have hbase : w.heap.size ≤ W0.heap.size := by have := S1.out.size; have := SB.out.size; omega
          have HCK0 := Aside0.mk (Kd.C_below HCK.out SB.out)
          have HCD0 := Aside0.mk (Kd.C_below HCD.out SB.out)
          refine pure_ (i := 1) (N := (some 65)) (v := ?_) (a' := ?_) #[false, true, false, false, false, false, false, false, false, false, false, false, false] rfl rfl (by kernel_rfl) (fun _ _ _ h => h) (Or.inl ⟨by rfl, ?_⟩) ?_ ?_
          rotate_left
          · intro w'
            go_simp
            with_reducible rfl
          rotate_left
          · simp only [Act.put, List.setIfInBounds_toArray, List.set_cons_zero, List.set_cons_succ, i64_w, i32_w]
            rfl
          refine pure_ (i := 2) (N := (some 66)) (v := ?_) (a' := ?_) #[false, true, true, false, false, false, false, false, false, false, false, false, false] rfl rfl (by kernel_rfl) (fun _ _ _ h => h) (Or.inl ⟨by rfl, ?_⟩) ?_ ?_
          rotate_left
          · intro w'
            go_simp
            with_reducible rfl
          rotate_left
          · simp only [Act.put, List.setIfInBounds_toArray, List.set_cons_zero, List.set_cons_succ, i64_w, i32_w]
            rfl
          refine pure_ (i := 3) (N := (some 67)) (v := ?_) (a' := ?_) #[false, true, true, true, false, false, false, false, false, false, false, false, false] rfl rfl (by kernel_rfl) (fun _ _ _ h => h) (Or.inl ⟨by rfl, ?_⟩) ?_ ?_
          rotate_left
          · intro w'
            go_simp
            with_reducible rfl
          rotate_left
          · simp only [Act.put, List.setIfInBounds_toArray, List.set_cons_zero, List.set_cons_succ, i64_w, i32_w]
            rfl
          refine take_ (i := 5) (N := (some 69)) (v := ?_) (a' := ?_) #[false, true, true, true, false, true, false, false, false, false, false, false, false] rfl rfl (by kernel_rfl) (fun _ _ _ h => h) (Or.inl ⟨by rfl, ?_⟩) hHeld ?_ ?_
          rotate_left
          · rintro w' ⟨s0, s1, s2, s3, s4⟩
            go_simp
            with_reducible rfl
          rotate_left
          · simp only [Act.put, List.setIfInBounds_toArray, List.set_cons_zero, List.set_cons_succ, i64_w, i32_w]
            rfl
          refine pure_ (i := 8) (N := (some 72)) (v := ?_) (a' := ?_) #[false, true, true, true, false, true, false, false, true, false, false, false, false] rfl rfl (by kernel_rfl) (fun _ _ _ h => h) (Or.inl ⟨by rfl, ?_⟩) ?_ ?_
          rotate_left
          · intro w'
            go_simp
            with_reducible rfl
          rotate_left
          · simp only [Act.put, List.setIfInBounds_toArray, List.set_cons_zero, List.set_cons_succ, i64_w, i32_w]
            rfl
          refine pure_ (i := 9) (N := (some 73)) (v := ?_) (a' := ?_) #[false, true, true, true, false, true, false, false, true, true, false, false, false] rfl rfl (by kernel_rfl) (fun _ _ _ h => h) (Or.inl ⟨by rfl, ?_⟩) ?_ ?_
          rotate_left
          · intro w'
            go_simp
            with_reducible rfl
          rotate_left
          · simp only [Act.put, List.setIfInBounds_toArray, List.set_cons_zero, List.set_cons_succ, i64_w, i32_w]
            rfl
          refine pure_ (i := 10) (N := (some 74)) (v := ?_) (a' := ?_) #[false, true, true, true, false, true, false, false, true, true, true, false, false] rfl rfl (by kernel_rfl) (fun _ _ _ h => h) (Or.inl ⟨by rfl, ?_⟩) ?_ ?_
          rotate_left
          · intro w'
            go_simp
            with_reducible rfl
          rotate_left
          · simp only [Act.put, List.setIfInBounds_toArray, List.set_cons_zero, List.set_cons_succ, i64_w, i32_w]
            rfl
          refine join_ (σ := Nat × Value × Value) 3 #[true, true, true, true, true, true, true, false, true, true, true, false, false] (fun s => [(64, .slice (some ⟨s.1, 0, none⟩) 0 0), (68, s.2.1), (70, s.2.2)]) (fun s W' => JR W0 w.heap.size (out.take n) y s.2.1 s.2.2 W') ?_ ?_
          rotate_left
          · intro hJ
            refine two_ (i := 0) (j := 6) (Ni := some 64) (Nj := some 70) #[true, true, true, true, false, true, false, false, true, true, true, false, false] #[false, true, true, true, false, true, true, false, true, true, true, false, false] rfl rfl rfl rfl (by kernel_rfl) (by decide) (by decide) (fun K hK => ?_) (fun K hK => ?_)
            · skip
              refine value_ (w1 := W0.alloc (.cells #[] 23)) (v := .slice (some ⟨W0.heap.size, 0, none⟩) 0 0) (by rfl) rfl (by go_simp) ?_
              refine hK.out _ _ (hSz _ (below_alloc (Below.refl _ _) _)) (fun hHeld => ?_)
              clear hK K
              refine norm_ (a' := ?_) ?_ ?_
              rotate_left
              · show Act.put _ (some 64) _ = _
                simp only [Act.put, List.setIfInBounds_toArray, List.set_cons_zero, List.set_cons_succ, i64_w, i32_w]
                rfl
              refine two_ (i := 4) (j := 6) (Ni := some 68) (Nj := some 70) #[true, true, true, true, true, true, false, false, true, true, true, false, false] #[true, true, true, true, false, true, true, false, true, true, true, false, false] rfl rfl rfl rfl (by kernel_rfl) (by decide) (by decide) (fun K hK => ?_) (fun K hK => ?_)
              · skip
                obtain ⟨v1, w1, hrun, hrow, hbel, hfr, hkeep, hsz⟩ := jr_one (c := cv) (g81 := W0.heap.size) (ds := out.take n) (below_alloc (Below.refl W0.heap.size W0) _) hbase (heap_alloc_new W0 _) (Nat.le_refl _) (Kd.C_below HCK0.out (below_alloc (Below.refl W0.heap.size W0) _)) (by rw [HL.out.1]; omega)
                rw [HL.out.1] at hrun
                refine step_app23 (by rfl) rfl (.tmp 64) (.tmp 67) rfl rfl (by rfl) (by rfl) hrun ?_
                refine hK.out _ _ (hSz _ (hbel)) (fun hHeld => ?_)
                clear hK K
                refine norm_ (a' := ?_) ?_ ?_
                rotate_left
                · show Act.put _ (some 68) _ = _
                  simp only [Act.put, List.setIfInBounds_toArray, List.set_cons_zero, List.set_cons_succ, i64_w, i32_w]
                  rfl
                refine one_ (i := 6) (N := (some 70)) #[true, true, true, true, true, true, true, false, true, true, true, false, false] rfl rfl (by kernel_rfl) (by decide) (fun K hK => ?_)
                refine value_ (w1 := w1.alloc (.cells #[.string y.f0, .int .i64 y.f1, .int .i64 y.f2, .int .i64 y.f3, .string y.f4] 23)) (v := .slice (some ⟨w1.heap.size, 0, none⟩) 1 1) (by rfl) rfl (by go_simp) ?_
                refine hK.out _ _ (hSz _ (below_alloc hbel _)) (fun hHeld => ?_)
                clear hK K
                refine norm_ (a' := ?_) ?_ ?_
                rotate_left
                · show Act.put _ (some 70) _ = _
                  simp only [Act.put, List.setIfInBounds_toArray, List.set_cons_zero, List.set_cons_succ, i64_w, i32_w]
                  rfl
                have h := hJ (W0.heap.size, v1, .slice (some ⟨w1.heap.size, 0, none⟩) 1 1) _ (jr_late hrow hbel hfr)
                simp only [putAll, Act.put, List.setIfInBounds_toArray, List.set_cons_zero, List.set_cons_succ] at h
                exact h
              · skip
                have hh := heap_alloc_new W0 (.cells #[] 23)
                refine value_ (w1 := (W0.alloc (.cells #[] 23)).alloc (.cells #[.string y.f0, .int .i64 y.f1, .int .i64 y.f2, .int .i64 y.f3, .string y.f4] 23)) (v := .slice (some ⟨(W0.alloc (.cells #[] 23)).heap.size, 0, none⟩) 1 1) (by rfl) rfl (by go_simp) ?_
                refine hK.out _ _ (hSz _ (below_alloc (below_alloc (Below.refl _ _) _) _)) (fun hHeld => ?_)
                clear hK K
                refine norm_ (a' := ?_) ?_ ?_
                rotate_left
                · show Act.put _ (some 70) _ = _
                  simp only [Act.put, List.setIfInBounds_toArray, List.set_cons_zero, List.set_cons_succ, i64_w, i32_w]
                  rfl
                refine one_ (i := 4) (N := (some 68)) #[true, true, true, true, true, true, true, false, true, true, true, false, false] rfl rfl (by kernel_rfl) (by decide) (fun K hK => ?_)
                obtain ⟨v1, w1, hrun, hrow, hbel, hfr, hkeep, hsz⟩ := jr_one (c := cv) (g81 := W0.heap.size) (ds := out.take n) (below_alloc (below_alloc (Below.refl W0.heap.size W0) (.cells #[] 23)) (.cells #[.string y.f0, .int .i64 y.f1, .int .i64 y.f2, .int .i64 y.f3, .string y.f4] 23)) hbase (pred_Both.up (heap_alloc_new W0 _) _) (Nat.le_refl _) (Kd.C_below HCK0.out (below_alloc (below_alloc (Below.refl W0.heap.size W0) (.cells #[] 23)) (.cells #[.string y.f0, .int .i64 y.f1, .int .i64 y.f2, .int .i64 y.f3, .string y.f4] 23))) (by rw [HL.out.1]; omega)
                rw [HL.out.1] at hrun
                refine step_app23 (by rfl) rfl (.tmp 64) (.tmp 67) rfl rfl (by rfl) (by rfl) hrun ?_
                refine hK.out _ _ (hSz _ (hbel)) (fun hHeld => ?_)
                clear hK K
                refine norm_ (a' := ?_) ?_ ?_
                rotate_left
                · show Act.put _ (some 68) _ = _
                  simp only [Act.put, List.setIfInBounds_toArray, List.set_cons_zero, List.set_cons_succ, i64_w, i32_w]
                  rfl
                have h := hJ (W0.heap.size, v1, .slice (some ⟨(W0.alloc (.cells #[] 23)).heap.size, 0, none⟩) 1 1) _ (jr_early hrow hbel hfr hkeep (heap_alloc_new (W0.alloc (.cells #[] 23)) (.cells #[.string y.f0, .int .i64 y.f1, .int .i64 y.f2, .int .i64 y.f3, .string y.f4] 23)) (by simp) (by simp))
                simp only [putAll, Act.put, List.setIfInBounds_toArray, List.set_cons_zero, List.set_cons_succ] at h
                exact h
            · skip
              refine value_ (w1 := W0.alloc (.cells #[.string y.f0, .int .i64 y.f1, .int .i64 y.f2, .int .i64 y.f3, .string y.f4] 23)) (v := .slice (some ⟨W0.heap.size, 0, none⟩) 1 1) (by rfl) rfl (by go_simp) ?_
              refine hK.out _ _ (hSz _ (below_alloc (Below.refl _ _) _)) (fun hHeld => ?_)
              clear hK K
              refine norm_ (a' := ?_) ?_ ?_
              rotate_left
              · show Act.put _ (some 70) _ = _
                simp only [Act.put, List.setIfInBounds_toArray, List.set_cons_zero, List.set_cons_succ, i64_w, i32_w]
                rfl
              refine one_ (i := 0) (N := (some 64)) #[true, true, true, true, false, true, true, false, true, true, true, false, false] rfl rfl (by kernel_rfl) (by decide) (fun K hK => ?_)
              refine value_ (w1 := (W0.alloc (.cells #[.string y.f0, .int .i64 y.f1, .int .i64 y.f2, .int .i64 y.f3, .string y.f4] 23)).alloc (.cells #[] 23)) (v := .slice (some ⟨(W0.alloc (.cells #[.string y.f0, .int .i64 y.f1, .int .i64 y.f2, .int .i64 y.f3, .string y.f4] 23)).heap.size, 0, none⟩) 0 0) (by rfl) rfl (by go_simp) ?_
              refine hK.out _ _ (hSz _ (below_alloc (below_alloc (Below.refl _ _) _) _)) (fun hHeld => ?_)
              clear hK K
              refine norm_ (a' := ?_) ?_ ?_
              rotate_left
              · show Act.put _ (some 64) _ = _
                simp only [Act.put, List.setIfInBounds_toArray, List.set_cons_zero, List.set_cons_succ, i64_w, i32_w]
                rfl
              refine one_ (i := 4) (N := (some 68)) #[true, true, true, true, true, true, true, false, true, true, true, false, false] rfl rfl (by kernel_rfl) (by decide) (fun K hK => ?_)
              obtain ⟨v1, w1, hrun, hrow, hbel, hfr, hkeep, hsz⟩ := jr_one (c := cv) (g81 := (W0.alloc (.cells #[.string y.f0, .int .i64 y.f1, .int .i64 y.f2, .int .i64 y.f3, .string y.f4] 23)).heap.size) (ds := out.take n) (below_alloc (below_alloc (Below.refl W0.heap.size W0) (.cells #[.string y.f0, .int .i64 y.f1, .int .i64 y.f2, .int .i64 y.f3, .string y.f4] 23)) (.cells #[] 23)) hbase (heap_alloc_new (W0.alloc (.cells #[.string y.f0, .int .i64 y.f1, .int .i64 y.f2, .int .i64 y.f3, .string y.f4] 23)) (.cells #[] 23)) (by simp) (Kd.C_below HCK0.out (below_alloc (below_alloc (Below.refl W0.heap.size W0) (.cells #[.string y.f0, .int .i64 y.f1, .int .i64 y.f2, .int .i64 y.f3, .string y.f4] 23)) (.cells #[] 23))) (by rw [HL.out.1]; omega)
              rw [HL.out.1] at hrun
              refine step_app23 (by rfl) rfl (.tmp 64) (.tmp 67) rfl rfl (by rfl) (by rfl) hrun ?_
              refine hK.out _ _ (hSz _ (hbel)) (fun hHeld => ?_)
              clear hK K
              refine norm_ (a' := ?_) ?_ ?_
              rotate_left
              · show Act.put _ (some 68) _ = _
                simp only [Act.put, List.setIfInBounds_toArray, List.set_cons_zero, List.set_cons_succ, i64_w, i32_w]
                rfl
              have h := hJ ((W0.alloc (.cells #[.string y.f0, .int .i64 y.f1, .int .i64 y.f2, .int .i64 y.f3, .string y.f4] 23)).heap.size, v1, .slice (some ⟨W0.heap.size, 0, none⟩) 1 1) _ (jr_early hrow hbel hfr hkeep (pred_Both.up (heap_alloc_new W0 _) _) (Nat.le_refl _) (by simp))
              simp only [putAll, Act.put, List.setIfInBounds_toArray, List.set_cons_zero, List.set_cons_succ] at h
              exact h
          rintro ⟨g64, v68, v70⟩ W1 hJR
          refine norm_ (a' := ?_) ?_ ?_
          rotate_left
          · simp only [putAll, Act.put, List.setIfInBounds_toArray, List.set_cons_zero, List.set_cons_succ]
            rfl
          replace hJR : JR W0 w.heap.size (out.take n) y v68 v70 W1 := hJR
          refine one_ (i := 7) (N := (some 71)) #[true, true, true, true, true, true, true, true, true, true, true, false, false] rfl rfl (by kernel_rfl) (by decide) (fun K hK => ?_)
          obtain ⟨v71, W2, hrun, hrow, hbel, hfr⟩ := jr_two hJR hbase (by rw [HL.out.1]; omega)
          refine step_app23 (by rfl) rfl (.tmp 68) (.tmp 70) rfl rfl (by rfl) (by rfl) hrun ?_
          refine hK.out _ _ (hSz _ (hbel)) (fun hHeld => ?_)
          clear hK K
          refine norm_ (a' := ?_) ?_ ?_
          rotate_left
          · show Act.put _ (some 71) _ = _
            simp only [Act.put, List.setIfInBounds_toArray, List.set_cons_zero, List.set_cons_succ, i64_w, i32_w]
            rfl
          clear hJR hrun
          refine one_ (i := 11) (N := (some 75)) #[true, true, true, true, true, true, true, true, true, true, true, true, false] rfl rfl (by kernel_rfl) (by decide) (fun K hK => ?_)
          obtain ⟨v75, W3, hrun, hrow3, hbel3⟩ := jr_three (c := cv - n) hrow hbel hfr HCD0.out hbase (by simp only [List.length_append, HL.out.1, HL.out.2, List.length_singleton]; omega)
          rw [HL.out.2] at hrun
          refine step_app23 (by rfl) rfl (.tmp 71) (.tmp 74) rfl rfl (by rfl) (by rfl) hrun ?_
          refine hK.out _ _ (hSz _ (hbel3)) (fun hHeld => ?_)
          clear hK K
          refine norm_ (a' := ?_) ?_ ?_
          rotate_left
          · show Act.put _ (some 75) _ = _
            simp only [Act.put, List.setIfInBounds_toArray, List.set_cons_zero, List.set_cons_succ, i64_w, i32_w]
            rfl
          clear hrun
          refine pure_ (i := 12) (N := (some 4)) (v := ?_) (a' := ?_) #[true, true, true, true, true, true, true, true, true, true, true, true, true] rfl rfl (by kernel_rfl) (fun _ _ _ h => h) (Or.inl ⟨by rfl, ?_⟩) ?_ ?_
          rotate_left
          · intro w'
            go_simp
            with_reducible rfl
          rotate_left
          · simp only [Act.put, List.setIfInBounds_toArray, List.set_cons_zero, List.set_cons_succ, i64_w, i32_w]
            rfl
          refine done_ (by kernel_rfl) ?_
          have HR3 := Aside0.mk hrow3
          have HBF : Aside0 (Below w.heap.size w W3) := ⟨below_step S1.out (below_step SB.out hbel3)⟩
          clear hrow3 hbel3 hrow hbel hfr hHeld hSz hW0
          have hln : Aside0 ((out.take n ++ [y] ++ out.drop n).length = out.length + 1) := ⟨by simp only [List.length_append, HL.out.1, HL.out.2, List.length_singleton]; omega⟩
          go_wp2
          go_roundw
          case rel => exact ⟨i + 1, out.take n ++ [y] ++ out.drop n, by omega, by go_num, HR3, by rw [hln.out]; omega, HIN, HBF⟩
          case measure => simp [intOf]; omega
    · have hie : i = l.length := by omega
      subst hie
      have hr3 : r = (out, true) := by have := I.out; simpa [ref_Make.l] using this.symm
      subst hr3
      go_wp2
      go_ret2
      exact ⟨_, rfl, O.out, S1.out⟩

/-- The contract of broadsideref1.Make in the printer's form. -/
def broadsideref1_Make.f (l : List S23) : Option (List S23 × Bool) := if l.length ≤ 1000000 then ref_Make.l [] l else none
theorem broadsideref1_Make.calls (A0 : Option Addr) (c0 : Nat) (l0 : List (S23)) (r1 : List (S23)) (r2 : Bool) (w : World) (hr0 : Kd.C k23 w A0 l0.length l0) (hc0 : l0.length ≤ c0) (h : broadsideref1_Make.f l0 = some (r1, r2)) :
    Calls Try.prog 25 #[.slice A0 l0.length c0] w fun e w' => ∃ v0_ : Value, e = .returned (.tuple #[v0_, .bool r2]) ∧ Kd.R k23 23 w' w.heap.size (fun _ => True) v0_ r1 ∧ Below w.heap.size w w' := by
  unfold broadsideref1_Make.f at h
  split at h
  · rename_i hl
    refine (ref_Make.run A0 c0 l0 (r1, r2) w hr0 hl h).mono ?_
    rintro e w' ⟨v, rfl, h1, h2⟩
    exact ⟨v, rfl, R_of_flat h1, h2⟩
  · cases h
end Go.Proofs.Ytfabnapjbgamaaa.MRelTrue
