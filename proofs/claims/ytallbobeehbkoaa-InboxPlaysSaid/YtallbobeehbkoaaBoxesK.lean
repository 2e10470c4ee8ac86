import Derived.Test.YtallbobeehbkoaaBoxesJ
import Derived.Test.YtallbobeehbkoaaBoxesS
import Derived.Test.YtallbobeehbkoaaBoxesH
namespace Go.Proofs.Ytallbobeehbkoaa.Boxes
open Go.RowKit Go.Proofs.YtallbobeehbkoaaW.PrintWords Go.Proofs.YtallbobeehbkoaaW.PrintLast Go.Proofs.Ytallbobeehbkoaa.PInboxPlays
set_option linter.unusedVariables false
set_option linter.unusedSimpArgs false

/-- What the attributes of d read as: none, or those of the law's tuple. -/
def at0 (r : List S54) (d : Dv) : List S54 := if d.n = 0 then [] else r
def AttN (G : Nat → Prop) (w : World) (base : Nat) (r : List S54) (d : Dv) : Prop := Att G w base r d ∨ (d.A = none ∧ d.n = 0 ∧ d.k = 0)
theorem AttN.reads {G : Nat → Prop} {w : World} {base : Nat} {r : List S54} {d : Dv} (h : AttN G w base r d) : Reads w (at0 r) d := by
  rcases h with h | ⟨h1, h2, h3⟩
  · have hr := h.reads
    have e : at0 r d = r := by
      unfold at0
      split
      · rename_i h0
        have := h.1
        rw [h0] at this
        exact (List.eq_nil_of_length_eq_zero this.symm).symm
      · rfl
    unfold Reads at hr ⊢
    rw [e]
    exact hr
  · have e : at0 r d = [] := by simp [at0, h2]
    unfold Reads
    rw [e, h1]
    exact ⟨h2, by omega, Kd.C_nil _ _⟩
theorem AttN.turn {G S : Nat → Prop} {w w' : World} {base : Nat} {r : List S54} {d : Dv} (h : AttN G w base r d) (k : Turn S w w') (hs : ∀ q, G q → ¬ S q) : AttN G w' base r d :=
  h.elim (fun h => .inl (h.turn k hs)) .inr
theorem AttN.mono {G G' : Nat → Prop} {w : World} {base : Nat} {r : List S54} {d : Dv} (h : AttN G w base r d) (hs : ∀ q, G q → G' q) : AttN G' w base r d := h.elim (fun h => .inl (h.mono hs)) .inr
theorem at0_le (r : List S54) (d : Dv) : (at0 r d).length ≤ r.length := by
  unfold at0
  split
  · exact Nat.zero_le _
  · exact Nat.le_refl _

/-- A map of rows, by itself; its rows are never written. -/
structure MB (w : World) (base bm N : Nat) (M : Nat → Prop) (m : Int → List Dv) (mv : Int → Value) (D : DataW Value) : Prop where
  map : w.ownsMap Try.prog 3 rawR bm N D
  at_ : ∀ k, wf k → D.atKey (.int .i64 k) (.held nilS) = .held (mv k)
  row : ∀ k, Row w base (mv k) (m k)
  Mb : M bm
  Mm : ∀ k q, (mv k).ownBlock = some q → M q
theorem MB.turn {w w' : World} {base bm N : Nat} {M S : Nat → Prop} {m : Int → List Dv} {mv : Int → Value} {D : DataW Value} (h : MB w base bm N M m mv D) (k : Turn S w w') (hs : ∀ q, M q → ¬ S q) : MB w' base bm N M m mv D :=
  { h with map := map_turn h.map k (hs bm h.Mb), row := fun q => (h.row q).turn k (fun p hp => hs p (h.Mm q p hp)) }
theorem MB.set {w W w3 : World} {base bm N : Nat} {M : Nat → Prop} {m : Int → List Dv} {mv : Int → Value} {D : DataW Value} (h : MB w base bm N M m mv D) (k : Int) (hk : wf k) {v1 : Value} {ds : List Dv} (hW : Below w.heap.size w W)
    (hr : Row W base v1 ds) (hfr : ∀ q, v1.ownBlock = some q → w.heap.size ≤ q) (hm : w3.ownsMap Try.prog 3 rawR bm (N + 1) (D.put (.int .i64 k) (.held v1))) (ht : W.mapTurned w3 bm) :
    MB w3 base bm (N + 1) (fun q => M q ∨ w.heap.size ≤ q ∧ q < w3.heap.size) (fun q => if q = k then ds else m q) (fun q => if q = k then v1 else mv q) (D.put (.int .i64 k) (.held v1)) ∧ Turn (fun q => q = bm) w w3 := by
  have hg3 := ht.grown
  have hT : Turn (fun q => q = bm) w w3 := (Turn.of_below hW).trans (S2 := fun q => q = bm) (Turn.of_grown hg3 (fun q e => by cases e; rfl)) (fun q e => .inl e)
  have hne : ∀ {W1 : World} {b1 : Nat} {v : Value} {ds : List Dv}, Row W1 b1 v ds → (∃ es clock, W1.heap[bm]? = some (.map es clock)) → v.ownBlock ≠ some bm := fun {W1 b1 v ds} hv hb e => by
    obtain ⟨es, clock, hb⟩ := hb
    obtain ⟨cs, hcs⟩ := hv.typed bm e
    rw [hb] at hcs
    cases hcs
  have hb1 : ∃ es clock, w.heap[bm]? = some (.map es clock) := by obtain ⟨es, clock, hb, _⟩ := h.map; exact ⟨es, clock, hb⟩
  have hb2 : ∃ es clock, W.heap[bm]? = some (.map es clock) := by obtain ⟨es, clock, hb⟩ := hb1; exact ⟨es, clock, (hW.block bm (blk_lt hb)).trans hb⟩
  have hr3 : Row w3 base v1 ds := hr.of_block fun q hq => hg3.block q (hr.lt q hq).2 (fun e => hne hr hb2 (by cases e; exact hq))
  refine ⟨{ map := hm, at_ := fun q hq => ?_, row := fun q => ?_, Mb := .inl h.Mb, Mm := fun q p hp => ?_ }, hT⟩
  · by_cases e : q = k
    · subst e
      rw [Go.Maps.atKey_put_same h.map.isMap (keyed3.key (key3 _ hk)), if_pos rfl]
    · rw [Go.Maps.atKey_put_other (lit_ne e), if_neg e]
      exact h.at_ q hq
  · by_cases e : q = k
    · simp only [if_pos e]
      exact hr3
    · simp only [if_neg e]
      exact (h.row q).turn hT (fun p hp e2 => hne (h.row q) hb1 (e2 ▸ hp))
  · by_cases e : q = k
    · simp only [if_pos e] at hp
      exact .inr ⟨hfr p hp, (hr3.lt p hp).2⟩
    · simp only [if_neg e] at hp
      exact .inl (h.Mm q p hp)

/-- What the law itself holds: the map, all that came, the tuple; X: blocks that turn without it. -/
structure PR (w : World) (r : List S54) (bm N : Nat) (u7 : Value) (all : List Dv) (m : Int → List Dv) (X : Nat → Prop) (wr : World) (M G : Nat → Prop) (gk : Nat) (ck : Array Value) : Prop where
  kb : wr.heap[gk]? = some (.cells ck 36 (0, 0))
  mb : ∃ mv D, MB wr w.heap.size bm N M m mv D
  row : Row wr w.heap.size u7 all
  att : ∀ d ∈ all, AttN G wr w.heap.size r d
  sub : ∀ q, ∀ d ∈ m q, d ∈ all
  rng : ∀ q, (q < 0 ∨ 5 ≤ q) → m q = []
  lm : ∀ q, (m q).length ≤ N
  la : all.length ≤ N
  XM : ∀ q, X q → ¬ M q ∧ ¬ G q ∧ q ≠ gk ∧ u7.ownBlock ≠ some q
  GM : ¬ G bm
  UM : ∀ q, u7.ownBlock = some q → ¬ M q ∧ ¬ G q
  lt : ∀ q, M q ∨ G q ∨ X q → q < wr.heap.size
  Xs : ∀ q, X q → w.heap.size ≤ q
  Ms : ∀ q, M q → w.heap.size ≤ q
  bel : Below w.heap.size w wr
section
variable {w : World} {r : List S54} {bm N : Nat} {u7 : Value} {all : List Dv} {m : Int → List Dv} {X : Nat → Prop} {wr : World} {M G : Nat → Prop} {gk : Nat} {ck : Array Value}
theorem PR.mono (h : PR w r bm N u7 all m X wr M G gk ck) {X' : Nat → Prop} (hX : ∀ q, X' q → X q) : PR w r bm N u7 all m X' wr M G gk ck :=
  { h with XM := fun q hq => h.XM q (hX q hq), lt := fun q hq => h.lt q (hq.imp id (Or.imp id (hX q))), Xs := fun q hq => h.Xs q (hX q hq) }
theorem PR.lk (h : PR w r bm N u7 all m X wr M G gk ck) : gk < wr.heap.size ∧ gk ≠ bm ∧ u7.ownBlock ≠ some gk ∧ (∀ q, u7.ownBlock = some q → q < wr.heap.size) := by
  refine ⟨blk_lt h.kb, fun e => ?_, fun e => ?_, fun q hq => (h.row.lt q hq).2⟩
  · obtain ⟨mv, D, hm⟩ := h.mb
    obtain ⟨es, clock, hb, _⟩ := hm.map
    have := h.kb
    rw [e, hb] at this
    cases this
  · obtain ⟨cs, hcs⟩ := h.row.typed gk e
    rw [h.kb] at hcs
    cases hcs
/-- The world turns in X, and in new blocks, which are X's from now on. -/
theorem PR.step (h : PR w r bm N u7 all m X wr M G gk ck) {w' : World} (k : Turn X wr w') : PR w r bm N u7 all m (fun q => X q ∨ wr.heap.size ≤ q ∧ q < w'.heap.size) w' M G gk ck := by
  obtain ⟨l1, l2, l3, l4⟩ := h.lk
  have hz := k.size
  have hz0 := h.bel.size
  exact { h with
    kb := (k.block gk l1 (fun e => (h.XM gk e).2.2.1 rfl)).trans h.kb
    mb := by
      obtain ⟨mv, D, hm⟩ := h.mb
      exact ⟨mv, D, hm.turn k (fun q hq hx => (h.XM q hx).1 hq)⟩
    row := h.row.turn k (fun q hq hx => (h.XM q hx).2.2.2 hq)
    att := fun d hd => (h.att d hd).turn k (fun q hq hx => (h.XM q hx).2.1 hq)
    XM := fun q hq => by
      rcases hq with hq | hq
      · exact h.XM q hq
      · exact ⟨fun e => by have := h.lt q (.inl e); omega, fun e => by have := h.lt q (.inr (.inl e)); omega, fun e => by omega, fun e => by have := l4 q e; omega⟩
    lt := fun q hq => by
      rcases hq with hq | hq | hq | hq
      · have := h.lt q (.inl hq); omega
      · have := h.lt q (.inr (.inl hq)); omega
      · have := h.lt q (.inr (.inr hq)); omega
      · exact hq.2
    Xs := fun q hq => hq.elim (h.Xs q) (fun h1 => by omega)
    bel := h.bel.trans (k.below h.bel.size h.Xs) }
theorem PR.below (h : PR w r bm N u7 all m X wr M G gk ck) {w' : World} (k : Below wr.heap.size wr w') : PR w r bm N u7 all m X w' M G gk ck := (h.step (Turn.of_below k)).mono (fun q hq => .inl hq)
/-- The new blocks are attributes from now on. -/
theorem PR.claim (h : PR w r bm N u7 all m X wr M G gk ck) {w' : World} (k : Below wr.heap.size wr w') : PR w r bm N u7 all m X w' M (fun q => G q ∨ wr.heap.size ≤ q ∧ q < w'.heap.size) gk ck := by
  have h1 := h.below k
  obtain ⟨l1, l2, l3, l4⟩ := h.lk
  have hz := k.size
  obtain ⟨mv, D, hm⟩ := h.mb
  exact { h1 with
    att := fun d hd => (h1.att d hd).mono (fun q hq => .inl hq)
    XM := fun q hq => ⟨(h1.XM q hq).1, fun e => e.elim (h1.XM q hq).2.1 (fun e => by have := h.lt q (.inr (.inr hq)); omega), (h1.XM q hq).2.2⟩
    GM := fun e => e.elim h.GM (fun e => by have := h.lt bm (.inl hm.Mb); omega)
    UM := fun q hq => ⟨(h.UM q hq).1, fun e => e.elim (h.UM q hq).2 (fun e => by have := l4 q hq; omega)⟩
    lt := fun q hq => by
      rcases hq with hq | (hq | hq) | hq
      · exact h1.lt q (.inl hq)
      · exact h1.lt q (.inr (.inl hq))
      · exact hq.2
      · exact h1.lt q (.inr (.inr hq)) }
/-- all = append(all, ..). -/
theorem PR.append (h : PR w r bm N u7 all m X wr M G gk ck) {w1 : World} {v1 : Value} {ds : List Dv} (hg : wr.grownBy w1 u7.ownBlock) (hr : Row w1 w.heap.size v1 (all ++ ds))
    (hat : v1.ownBlock = u7.ownBlock ∨ ∃ q, v1.ownBlock = some q ∧ wr.heap.size ≤ q) (hd : ∀ d ∈ ds, AttN G wr w.heap.size r d) (hl : all.length + ds.length ≤ N) :
    PR w r bm N v1 (all ++ ds) m X w1 M G gk ck ∧ Turn (fun q => u7.ownBlock = some q) wr w1 := by
  have hT : Turn (fun q => u7.ownBlock = some q) wr w1 := Turn.of_grown hg (fun q hq => hq)
  obtain ⟨l1, l2, l3, l4⟩ := h.lk
  have hz := hT.size
  have hz0 := h.bel.size
  have hv : ∀ q, v1.ownBlock = some q → u7.ownBlock = some q ∨ wr.heap.size ≤ q := fun q hq => by
    rcases hat with hat | ⟨p, hp, hle⟩
    · exact .inl (hat ▸ hq)
    · rw [hq] at hp
      cases hp
      exact .inr hle
  obtain ⟨mv, D, hm⟩ := h.mb
  exact ⟨{ h with
    kb := (hT.block gk l1 l3).trans h.kb
    mb := ⟨mv, D, hm.turn hT (fun q hq hx => (h.UM q hx).1 hq)⟩
    row := hr
    att := fun d hd2 => (List.mem_append.1 hd2).elim (fun h2 => (h.att d h2).turn hT (fun q hq hx => (h.UM q hx).2 hq)) (fun h2 => (hd d h2).turn hT (fun q hq hx => (h.UM q hx).2 hq))
    sub := fun q d hd2 => List.mem_append.2 (.inl (h.sub q d hd2))
    la := by rw [List.length_append]; exact hl
    XM := fun q hq => ⟨(h.XM q hq).1, (h.XM q hq).2.1, (h.XM q hq).2.2.1, fun e => (hv q e).elim (h.XM q hq).2.2.2 (fun e => by have := h.lt q (.inr (.inr hq)); omega)⟩
    UM := fun q hq => (hv q hq).elim (h.UM q) (fun e => ⟨fun e2 => by have := h.lt q (.inl e2); omega, fun e2 => by have := h.lt q (.inr (.inl e2)); omega⟩)
    lt := fun q hq => Nat.lt_of_lt_of_le (h.lt q hq) hz
    bel := h.bel.trans (hT.below h.bel.size (fun q hq => (h.row.lt q hq).1)) }, hT⟩
/-- boxes[k] = a fresh row. -/
theorem PR.set (h : PR w r bm N u7 all m X wr M G gk ck) (k : Int) (hk : 0 ≤ k ∧ k < 5) {W w3 : World} {mv : Int → Value} {D : DataW Value} (hm : MB wr w.heap.size bm N M m mv D) {v1 : Value} {ds : List Dv} (hW : Below wr.heap.size wr W)
    (hr : Row W w.heap.size v1 ds) (hfr : ∀ q, v1.ownBlock = some q → wr.heap.size ≤ q) (ho : w3.ownsMap Try.prog 3 rawR bm (N + 1) (D.put (.int .i64 k) (.held v1))) (ht : W.mapTurned w3 bm) (hd : ∀ d ∈ ds, d ∈ all) (hl : ds.length ≤ N + 1) :
    PR w r bm (N + 1) u7 all (fun q => if q = k then ds else m q) X w3 (fun q => M q ∨ wr.heap.size ≤ q ∧ q < w3.heap.size) G gk ck ∧ Turn (fun q => q = bm) wr w3 := by
  have hwk : wf k := wf_small _ (by omega) (by omega)
  obtain ⟨hm3, hT⟩ := hm.set k hwk hW hr hfr ho ht
  obtain ⟨l1, l2, l3, l4⟩ := h.lk
  have hz := hT.size
  have hz0 := h.bel.size
  have hXb : ¬ X bm := fun e => (h.XM bm e).1 hm.Mb
  have hUb : u7.ownBlock ≠ some bm := fun e => (h.UM bm e).1 hm.Mb
  exact ⟨{ h with
    kb := (hT.block gk l1 l2).trans h.kb
    mb := ⟨_, _, hm3⟩
    row := h.row.turn hT (fun q hq e => hUb (e ▸ hq))
    att := fun d hd => (h.att d hd).turn hT (fun q hq e => h.GM (e ▸ hq))
    sub := fun q d hd2 => by
      by_cases e : q = k
      · simp only [if_pos e] at hd2; exact hd d hd2
      · simp only [if_neg e] at hd2; exact h.sub q d hd2
    rng := fun q hq => by
      have e : ¬ q = k := by omega
      simp only [if_neg e]
      exact h.rng q hq
    lm := fun q => by
      by_cases e : q = k
      · simp only [if_pos e]; exact hl
      · simp only [if_neg e]; exact Nat.le_succ_of_le (h.lm q)
    la := Nat.le_succ_of_le h.la
    XM := fun q hq => ⟨fun e => e.elim (h.XM q hq).1 (fun e => by have := h.lt q (.inr (.inr hq)); omega), (h.XM q hq).2⟩
    UM := fun q hq => ⟨fun e => e.elim (h.UM q hq).1 (fun e => by have := l4 q hq; omega), (h.UM q hq).2⟩
    lt := fun q hq => by
      rcases hq with (hq | hq) | hq | hq
      · have := h.lt q (.inl hq); omega
      · exact hq.2
      · have := h.lt q (.inr (.inl hq)); omega
      · have := h.lt q (.inr (.inr hq)); omega
    Ms := fun q hq => hq.elim (h.Ms q) (fun e => by omega)
    bel := h.bel.trans (hT.below h.bel.size (fun q hq => by subst hq; exact h.Ms _ hm.Mb)) }, hT⟩
theorem PR.grow (h : PR w r bm N u7 all m X wr M G gk ck) {N' : Nat} (hN : N ≤ N') : PR w r bm N' u7 all m X wr M G gk ck := by
  obtain ⟨mv, D, hm⟩ := h.mb
  exact { h with mb := ⟨mv, D, { hm with map := hm.map.mono hN }⟩, lm := fun q => Nat.le_trans (h.lm q) hN, la := Nat.le_trans h.la hN }
theorem PR.look (h : PR w r bm N u7 all m X wr M G gk ck) : ∃ mv D, MB wr w.heap.size bm N M m mv D ∧ ∀ k, wf k → (Instr.lookup 43 (.map (some bm)) (.int .i64 k) false).run Try.prog wr = .ok (mv k) wr := by
  obtain ⟨mv, D, hm⟩ := h.mb
  exact ⟨mv, D, hm, fun k hk => run_look hm.map hk (hm.at_ k hk)⟩
theorem PR.readsAll (h : PR w r bm N u7 all m X wr M G gk ck) : ∀ d ∈ all, Reads wr (at0 r) d := fun d hd => (h.att d hd).reads
theorem PR.readsM (h : PR w r bm N u7 all m X wr M G gk ck) (q : Int) : ∀ d ∈ m q, Reads wr (at0 r) d := fun d hd => (h.att d (h.sub q d hd)).reads
end
theorem within5 (x : Int) : broadsidebook_Within.f x 0 4 = some (x % 5) := within_is x 4 (by omega) (by omega)
theorem mod5_rng (x : Int) : 0 ≤ x % 5 ∧ x % 5 < 5 := ⟨Int.emod_nonneg x (by omega), Int.emod_lt_of_pos x (by omega)⟩
end Go.Proofs.Ytallbobeehbkoaa.Boxes
