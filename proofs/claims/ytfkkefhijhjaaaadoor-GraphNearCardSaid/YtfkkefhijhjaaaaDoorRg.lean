import Derived.Test.YtfkkefhijhjaaaaDoorProg
import Derived.Test.YtfkkefhijhjaaaaDoorWWords
import Derived.Test.YtfkkefhijhjaaaaDoorWLast
import Derived.Test.YtfkkefhijhjaaaaDoorWMore
import Derived.Test.YtfkkefhijhjaaaaDoorWTab
import Derived.WalkKit
import Derived.KernelRfl
namespace Go.Proofs.YtfkkefhijhjaaaaDoor
open Go.RowKit Go.Proofs.YtfkkefhijhjaaaaDoorW.PrintLast Go.Proofs.YtfkkefhijhjaaaaDoorW.PrintWords
set_option linter.unusedVariables false
set_option linter.unusedSimpArgs false
/-! ### Drawn regions, step by step, with the act held as a row of what is known of its slots (no literal frame in any goal) -/
namespace Rg
/-- A row of Bools out of a mask. -/
def bl (n m : Nat) : Array Bool := ((List.range n).map fun i => m.testBit i).toArray
def lk : List (Nat × Value) → Nat → Value
  | [], _ => undef
  | (t, v) :: r, s => bif Nat.beq s t then v else lk r s
def kn : List (Nat × Value) → Nat → Bool
  | [], _ => false
  | (t, _) :: r, s => Nat.beq s t || kn r s
def ev (L : List (Nat × Value)) : Operand → Value
  | .tmp t => lk L t
  | .const v => v
  | .global g => .pointer (some ⟨g, 0, none⟩)
  | .func f => .func (.func f) #[] #[]
def knO (L : List (Nat × Value)) : Operand → Bool
  | .tmp t => kn L t
  | _ => true
/-- What a region does not touch: the deferred calls; the slots that it does not write (wm: the mask of those it writes) stand as in l0. -/
structure Kp where
  defs : List Deferred
  wm : Nat
  l0 : List Value
  ds : List Nat
structure Fr (n : Nat) (D : Kp) (L : List (Nat × Value)) (a : Act) : Prop where
  size : a.tmps.size = n
  defers : a.defers = D.defs
  keep : ∀ t, D.wm.testBit t = false → a.tmps.getD t undef = D.l0.getD t undef
  get : ∀ t, kn L t = true → a.tmps.getD t undef = lk L t
def conj (a : Act) : List (Nat × Value) → Prop
  | [] => True
  | (t, v) :: r => a.tmps.getD t undef = v ∧ conj a r
theorem Fr.mk' {n : Nat} {D : Kp} {a : Act} {L : List (Nat × Value)} (hs : a.tmps.size = n) (hd : a.defers = D.defs) (hk : ∀ t, D.wm.testBit t = false → a.tmps.getD t undef = D.l0.getD t undef) (h : conj a L) : Fr n D L a := by
  refine ⟨hs, hd, hk, ?_⟩
  intro t ht
  induction L with
  | nil => cases ht
  | cons p r ih =>
    obtain ⟨s, v⟩ := p
    rw [lk]
    cases hb : Nat.beq t s
    · exact ih h.2 (by simpa [kn, hb] using ht)
    · rw [Nat.eq_of_beq_eq_true hb]
      exact h.1
theorem Fr.ev {n : Nat} {D : Kp} {L : List (Nat × Value)} {a : Act} (h : Fr n D L a) {x : Operand} (hx : knO L x = true) : a.eval x = Rg.ev L x := by
  cases x with
  | tmp t => exact h.get t hx
  | const v => rfl
  | global g => rfl
  | func f => rfl
theorem Fr.put {n : Nat} {D : Kp} {L : List (Nat × Value)} {a : Act} (h : Fr n D L a) {t : Nat} (ht : t < n) (hw : D.wm.testBit t = true) (v : Value) : Fr n D ((t, v) :: L) (a.put (some t) v) := by
  refine ⟨by simp [Act.put, h.size], h.defers, fun s hs => ?_, fun s hs => ?_⟩
  · have hne : t ≠ s := by intro e; rw [e, hs] at hw; cases hw
    rw [← h.keep s hs]
    simp only [Act.put]
    rw [Array.getD_eq_getD_getElem?, Array.getD_eq_getD_getElem?, Array.getElem?_setIfInBounds_ne hne]
  rw [lk]
  cases hb : Nat.beq s t
  · have hne : s ≠ t := by intro e; rw [e] at hb; simp at hb
    have := h.get s (by simpa [kn, hb] using hs)
    rw [cond_false, ← this]
    simp only [Act.put]
    rw [Array.getD_eq_getD_getElem?, Array.getD_eq_getD_getElem?, Array.getElem?_setIfInBounds_ne (fun e => hne e.symm)]
  · obtain rfl := Nat.eq_of_beq_eq_true hb
    simp only [Act.put, cond_true]
    rw [Array.getD_eq_getD_getElem?, Array.getElem?_setIfInBounds_self_of_lt (by rw [h.size]; exact ht)]
    rfl
theorem Fr.noput {n : Nat} {D : Kp} {L : List (Nat × Value)} {a : Act} (h : Fr n D L a) (v : Value) : Fr n D L (a.put none v) := h
/-! The table of a region: made once, numbers alone. -/
structure Ent where
  needs : Nat
  clash : Nat
  dst : Option Nat
  grd : Option (Nat × Bool)
  op : Op
def msk (l : List Nat) : Nat := l.foldr (fun j a => Nat.lor (2 ^ j) a) 0
def sub (a m : Nat) : Bool := Nat.beq (Nat.land a m) a
def gOf (ops : Array Oper) (o : Oper) : Option (Nat × Bool) :=
  match o.guard with
  | none => none
  | some (j, b) => some ((((ops[j]?).bind (·.dst)).getD 1000000), b)
def mkT (md : Region.Mode) (ops : Array Oper) : List Ent := (List.range ops.size).map fun i => match ops[i]? with
  | some o => ⟨msk (needsOf md o), msk (clashOf md ops i o), o.dst, gOf ops o, o.op⟩
  | none => ⟨0, 0, none, none, .move (.tmp 0)⟩
/-- A region and its table. -/
structure Tabd (md : Region.Mode) (ops : Array Oper) (N : Nat) (tb : List Ent) : Prop where
  tab : mkT md ops = tb
  nosel : Region.noSelect ops = true
  size : ops.size = N
theorem msk_bit : ∀ {l : List Nat} {j : Nat}, j ∈ l → (msk l).testBit j = true
  | k :: r, j, h => by
    show (Nat.lor (2 ^ k) (msk r)).testBit j = true
    rw [show Nat.lor (2 ^ k) (msk r) = 2 ^ k ||| msk r from rfl, Nat.testBit_or]
    rcases List.mem_cons.1 h with rfl | h
    · rw [Nat.testBit_two_pow_self, Bool.true_or]
    · rw [msk_bit h, Bool.or_true]
theorem bit_msk : ∀ {l : List Nat} {j : Nat}, (msk l).testBit j = true → j ∈ l
  | [], j, h => by simp [msk] at h
  | k :: r, j, h => by
    rw [show msk (k :: r) = 2 ^ k ||| msk r from rfl, Nat.testBit_or, Bool.or_eq_true] at h
    rcases h with h | h
    · rw [Nat.testBit_two_pow] at h
      rw [of_decide_eq_true h]
      exact List.mem_cons_self
    · exact List.mem_cons_of_mem _ (bit_msk h)
theorem sub_bit {a m j : Nat} (h : sub a m = true) (hj : a.testBit j = true) : m.testBit j = true := by
  have e : a &&& m = a := Nat.eq_of_beq_eq_true h
  rw [← e, Nat.testBit_and, Bool.and_eq_true] at hj
  exact hj.2
theorem sub_iff {l : List Nat} {m : Nat} : sub (msk l) m = l.all (fun j => m.testBit j) := by
  rw [Bool.eq_iff_iff, List.all_eq_true]
  constructor
  · exact fun h j hj => sub_bit h (msk_bit hj)
  · intro h
    show Nat.beq (msk l &&& m) (msk l) = true
    rw [Nat.beq_eq]
    apply Nat.eq_of_testBit_eq
    intro j
    rw [Nat.testBit_and]
    cases hb : (msk l).testBit j
    · rfl
    · rw [h j (bit_msk hb)]; rfl
theorem bl_size (n m : Nat) : (bl n m).size = n := by simp [bl]
theorem bl_getD {n m j : Nat} {b : Bool} (h : j < n) : (bl n m).getD j b = m.testBit j := by
  rw [Array.getD_eq_getD_getElem?]
  simp [bl, h]
theorem bl_out {n m j : Nat} {b : Bool} (h : n ≤ j) : (bl n m).getD j b = b := by
  rw [Array.getD_eq_getD_getElem?, Array.getElem?_eq_none (by rw [bl_size]; exact h)]
  rfl
theorem bl_set {n m i : Nat} (h : i < n) : (bl n m).setIfInBounds i true = bl n (Nat.lor m (2 ^ i)) := by
  apply Array.ext_getElem?
  intro j
  by_cases hj : j < n
  · rcases Nat.lt_or_ge 0 1 with _ | h0
    · by_cases e : i = j
      · subst e
        rw [Array.getElem?_setIfInBounds_self_of_lt (by rw [bl_size]; exact h)]
        simp [bl, h, show Nat.lor m (2 ^ i) = m ||| 2 ^ i from rfl, Nat.testBit_or, Nat.testBit_two_pow_self]
      · rw [Array.getElem?_setIfInBounds_ne e]
        simp [bl, hj, show Nat.lor m (2 ^ i) = m ||| 2 ^ i from rfl, Nat.testBit_or, Nat.testBit_two_pow, e]
    · omega
  · rw [Array.getElem?_eq_none (by rw [Array.size_setIfInBounds, bl_size]; omega), Array.getElem?_eq_none (by rw [bl_size]; omega)]
section
variable {md : Region.Mode} {ops : Array Oper} {N : Nat} {tb : List Ent}
theorem Tabd.ent (h : Tabd md ops N tb) {i : Nat} {e : Ent} (he : tb[i]? = some e) : ∃ o, ops[i]? = some o ∧ e = ⟨msk (needsOf md o), msk (clashOf md ops i o), o.dst, gOf ops o, o.op⟩ := by
  rw [← h.tab] at he
  unfold mkT at he
  rw [List.getElem?_map] at he
  obtain ⟨k, hk, hk2⟩ := Option.map_eq_some_iff.1 he
  obtain ⟨hi, rfl⟩ := List.getElem?_eq_some_iff.1 hk
  simp only [List.getElem_range] at hk2
  rw [List.length_range] at hi
  rw [Array.getElem?_eq_getElem hi] at hk2
  exact ⟨_, Array.getElem?_eq_getElem hi, hk2.symm⟩
theorem Tabd.len (h : Tabd md ops N tb) : tb.length = N := by rw [← h.tab, ← h.size]; simp [mkT]
def rdyE (e : Ent) (m i : Nat) : Bool := !m.testBit i && sub e.needs m
theorem Tabd.needs_lt (h : Tabd md ops N tb) {m j : Nat} (hm : m < 2 ^ N) (hj : m.testBit j = true) : j < N := by
  rcases Nat.lt_or_ge j N with h1 | h1
  · exact h1
  · have : m.testBit j = false := Nat.testBit_lt_two_pow (Nat.lt_of_lt_of_le hm (Nat.pow_le_pow_right (by omega) h1))
    rw [this] at hj
    cases hj
theorem needs_bl (h : Tabd md ops N tb) {m : Nat} (hm : m < 2 ^ N) (l : List Nat) : l.all (fun j => (bl N m).toList.getD j false) = sub (msk l) m := by
  rw [sub_iff]
  congr 1
  funext j
  rw [← gd]
  rcases Nat.lt_or_ge j N with h1 | h1
  · exact bl_getD h1
  · rw [bl_out h1]
    cases hb : m.testBit j
    · rfl
    · have := h.needs_lt hm hb; omega
theorem readyAt_bl (h : Tabd md ops N tb) {m i : Nat} {e : Ent} (hm : m < 2 ^ N) (hi : i < N) (he : tb[i]? = some e) : readyAt (rtab md ops).2 (bl N m).toList i = rdyE e m i := by
  obtain ⟨o, ho, rfl⟩ := h.ent he
  unfold readyAt rdyE
  rw [rtab_some ho, ← gd, bl_getD hi]
  simp only
  rw [needs_bl h hm]
def anyM (tb : List Ent) (N m m' i : Nat) : Bool := match tb[i]? with
  | some e => rdyE e m i && sub e.clash m && Nat.beq m' (Nat.lor m (2 ^ i)) && Nat.blt m (2 ^ N)
  | none => false
theorem anyM_of (h : Tabd md ops N tb) {m m' i : Nat} (hc : anyM tb N m m' i = true) : anyB md ops (bl N m) (bl N m') i = true := by
  unfold anyM at hc
  split at hc
  · rename_i e he
    simp only [Bool.and_eq_true] at hc
    obtain ⟨⟨⟨h1, h2⟩, h3⟩, h4⟩ := hc
    rw [Nat.blt_eq] at h4
    have hi : i < N := by rw [← h.len]; exact (List.getElem?_eq_some_iff.1 he).1
    rw [Nat.eq_of_beq_eq_true h3]
    obtain ⟨o, ho, e0⟩ := h.ent he
    simp only [anyB, Bool.and_eq_true]
    refine ⟨⟨⟨h.nosel, ?_⟩, ?_⟩, ?_⟩
    · rw [free_eq]
      unfold freeT
      rw [rtab_some ho]
      simp only
      rw [e0] at h2
      rw [List.all_eq_true]
      intro j hj
      rw [← gd]
      rcases Nat.lt_or_ge j N with h5 | h5
      · rw [bl_getD h5]
        exact sub_bit h2 (msk_bit hj)
      · exact bl_out h5
    · exact readyAt_mem (T := rtab md ops) (by rw [readyAt_bl h h4 hi he]; exact h1) rfl
    · rw [bl_set hi, beq_iff_eq]
  · cases hc
def closedM (m : Nat) : List Ent → Nat → Bool
  | [], _ => true
  | e :: r, j => (!m.testBit j || sub e.needs m) && closedM m r (j + 1)
theorem closedM_at {m : Nat} (tb : List Ent) : ∀ (j i : Nat) (e : Ent), closedM m tb j = true → tb[i]? = some e → m.testBit (j + i) = true → sub e.needs m = true := by
  induction tb with
  | nil => intro j i e _ he _; simp at he
  | cons x r ih =>
    intro j i e h he hb
    rw [closedM, Bool.and_eq_true] at h
    cases i with
    | zero =>
      rw [List.getElem?_cons_zero] at he
      have he' := Option.some.inj he
      subst he'
      rw [Nat.add_zero] at hb
      have h1 := h.1
      rw [hb] at h1
      exact h1
    | succ i =>
      rw [List.getElem?_cons_succ] at he
      exact ih (j + 1) i e h.2 he (by rw [show j + 1 + i = j + (i + 1) by omega]; exact hb)
/-- What is to come last waits for operation i. -/
def lastM (tb : List Ent) (ds : List Nat) (i : Nat) : Bool := ds.all fun z => match tb[z]? with
  | some e => Nat.testBit e.needs i
  | none => false
def nin (ds : List Nat) (i : Nat) : Bool := !ds.contains i
theorem nin_of {ds : List Nat} {i : Nat} (h : nin ds i = true) : i ∉ ds := by
  intro hm
  unfold nin at h
  rw [Bool.not_eq_true', ← Bool.not_eq_true, List.contains_iff_mem] at h
  exact h hm
theorem reach_of (h : Tabd md ops N tb) {i z : Nat} {e : Ent} (he : tb[z]? = some e) (hb : Nat.testBit e.needs i = true) (hN : 0 < ops.size) : Region.reachB md ops i ops.size z = true := by
  obtain ⟨o, ho, rfl⟩ := h.ent he
  have hm := bit_msk hb
  unfold needsOf at hm
  obtain ⟨x, hx, rfl⟩ := List.mem_map.1 hm
  obtain ⟨h1, h2⟩ := List.mem_filter.1 hx
  obtain ⟨m, hm2⟩ : ∃ m, ops.size = m + 1 := ⟨ops.size - 1, by omega⟩
  rw [hm2, Region.reachB, ho]
  simp only
  rw [← Array.any_toList, List.any_eq_true]
  exact ⟨x, h1, by simp [h2]⟩
theorem lastM_of (h : Tabd md ops N tb) {ds : List Nat} {i : Nat} {l : Array Bool} (hl : lastM tb ds i = true) : Region.lastB md ops l ds i = true := by
  unfold Region.lastB
  rw [List.all_eq_true]
  intro z hz
  have h1 := List.all_eq_true.1 hl z hz
  cases he : tb[z]? with
  | none => rw [he] at h1; cases h1
  | some e =>
    rw [he] at h1
    have hlt : z < tb.length := (List.getElem?_eq_some_iff.1 he).1
    have hs : 0 < ops.size := by rw [h.size, ← h.len]; omega
    rw [reach_of h he h1 hs, Bool.or_true]
theorem takeM_of (h : Tabd md ops N tb) {ds : List Nat} {m m' i : Nat} (hc : (anyM tb N m m' i && closedM m tb 0) = true) (hl : lastM tb ds i = true) : takeB md ops ds (bl N m) (bl N m') i = true := by
  rw [Bool.and_eq_true] at hc
  have h1 := anyM_of h hc.1
  have hm : m < 2 ^ N := by
    have h2 := hc.1
    unfold anyM at h2
    split at h2
    · simp only [Bool.and_eq_true] at h2
      rw [Nat.blt_eq] at h2
      exact h2.2
    · cases h2
  simp only [anyB, Bool.and_eq_true] at h1
  simp only [takeB, Bool.and_eq_true]
  refine ⟨⟨⟨h1.1, ?_⟩, lastM_of h hl⟩, h1.2⟩
  rw [closed_eq]
  unfold closedT
  rw [List.all_eq_true]
  intro j hj
  rw [List.mem_range, rtab_length, h.size] at hj
  rw [← gd, bl_getD hj]
  cases hb : m.testBit j
  · rfl
  · have hj' : j < tb.length := by rw [h.len]; exact hj
    have he := List.getElem?_eq_getElem hj'
    have h2 := closedM_at tb 0 j _ hc.2 he (by rw [Nat.zero_add]; exact hb)
    obtain ⟨o, ho, e0⟩ := h.ent he
    rw [rtab_some ho]
    simp only [Bool.not_true, Bool.false_or]
    rw [needs_bl h hm]
    rw [e0] at h2
    exact h2
def rdL (m : Nat) : List Ent → Nat → List Nat
  | [], _ => []
  | e :: r, j => bif rdyE e m j then j :: rdL m r (j + 1) else rdL m r (j + 1)
theorem rdL_eq {m : Nat} : ∀ (tb : List Ent) (j : Nat) (p : Nat → Bool), (∀ i e, tb[i]? = some e → p (j + i) = rdyE e m (j + i)) → (List.range' j tb.length).filter p = rdL m tb j
  | [], j, p, _ => rfl
  | e :: r, j, p, h => by
    have h0 := h 0 e rfl
    have ih := rdL_eq r (j + 1) p (fun i x hx => by
      have := h (i + 1) x (by simpa using hx)
      rwa [show j + (i + 1) = j + 1 + i by omega] at this)
    rw [List.length_cons, List.range'_succ, List.filter_cons, rdL]
    rw [Nat.add_zero] at h0
    rw [h0, ih]
    cases rdyE e m j <;> rfl
theorem ready_bl (h : Tabd md ops N tb) {m : Nat} (hm : m < 2 ^ N) : Region.ready md ops (bl N m) = rdL m tb 0 := by
  rw [ready_eq]
  unfold readyT
  rw [rtab_length, h.size, ← h.len, List.range_eq_range']
  refine rdL_eq tb 0 _ (fun i e he => ?_)
  rw [Nat.zero_add, h.len]
  exact readyAt_bl h hm (by rw [← h.len]; exact (List.getElem?_eq_some_iff.1 he).1) he
def lone (r : List Nat) (i : Nat) : Bool := match r with | [j] => Nat.beq j i | _ => false
def oneM (tb : List Ent) (N m m' i : Nat) : Bool := lone (rdL m tb 0) i && Nat.beq m' (Nat.lor m (2 ^ i)) && Nat.blt m (2 ^ N) && Nat.blt i N
theorem oneM_of (h : Tabd md ops N tb) {m m' i : Nat} (hc : oneM tb N m m' i = true) : readyB md ops (bl N m) (bl N m') i = true := by
  simp only [oneM, Bool.and_eq_true] at hc
  obtain ⟨⟨⟨h1, h3⟩, h4⟩, h5⟩ := hc
  rw [Nat.blt_eq] at h4 h5
  simp only [readyB, Bool.and_eq_true, beq_iff_eq]
  rw [ready_bl h h4, bl_set h5, Nat.eq_of_beq_eq_true h3]
  refine ⟨?_, rfl⟩
  unfold lone at h1
  split at h1
  · rename_i j e
    rw [e, Nat.eq_of_beq_eq_true h1]
  · cases h1
end
/-- Is an operation asked for? -/
def wa (n : Nat) (L : List (Nat × Value)) (g : Option (Nat × Bool)) : Option Bool :=
  match g with
  | none => some true
  | some (t, b) => bif Nat.blt t n && kn L t then (match lk L t with | .bool c => some (c == b) | .tuple _ => some false | _ => none) else none
theorem Fr.wanted {n : Nat} {D : Kp} {L : List (Nat × Value)} {a : Act} (h : Fr n D L a) (hn : n ≤ 1000000) {ops : Array Oper} {o : Oper} {b : Bool} (hw : wa n L (gOf ops o) = some b) : Region.wanted o (yielded ops a.tmps) = b := by
  unfold wa gOf at hw
  unfold Region.wanted
  cases hg : o.guard with
  | none => rw [hg] at hw; simpa using hw
  | some p =>
    obtain ⟨j, c⟩ := p
    rw [hg] at hw
    simp only at hw ⊢
    cases ht : (ops[j]?).bind (·.dst) with
    | none =>
      rw [ht] at hw
      simp only [Option.getD_none] at hw
      have : Nat.blt 1000000 n = false := by
        cases hb : Nat.blt 1000000 n
        · rfl
        · rw [Nat.blt_eq] at hb; omega
      rw [this] at hw
      cases hw
    | some t =>
      rw [ht] at hw
      simp only [Option.getD_some] at hw
      cases hk : Nat.blt t n && kn L t
      · rw [hk] at hw; cases hw
      · rw [hk] at hw
        obtain ⟨h1, h2⟩ := Bool.and_eq_true_iff.1 hk
        have h3 : t < n := by rw [Nat.blt_eq] at h1; exact h1
        have h4 := h.get t h2
        have h5 : a.tmps[t]? = some (lk L t) := by
          rw [Array.getD_eq_getD_getElem?, Array.getElem?_eq_getElem (by rw [h.size]; exact h3)] at h4
          rw [Array.getElem?_eq_getElem (by rw [h.size]; exact h3)]
          simpa using h4
        unfold yielded
        rw [ht]
        show ((match a.tmps[t]? with | some (.bool b) => some b | _ => none) == some c) = b
        rw [h5]
        simp only [cond_true] at hw
        cases hv : lk L t <;> rw [hv] at hw <;> simp_all
section
variable {P : Program} {ops : Array Oper} {Q : Exit → Act → World → Prop} {md : Region.Mode} {S : World → Prop} {n N : Nat} {D : Kp} {L : List (Nat × Value)} {w : World} {a : Act} {tb : List Ent}
/-- The state of a region: what has come up is a mask. -/
def At (P : Program) (md : Region.Mode) (ops : Array Oper) (Q : Exit → Act → World → Prop) (S : World → Prop) (n N : Nat) (D : Kp) (m k : Nat) (L : List (Nat × Value)) (w : World) : Prop := ∀ a, Fr n D L a → wpAnyLast P md ops Q S D.ds k (bl N m) a w
def PanicFree (Q : Exit → Act → World → Prop) : Prop := ∀ c (a a' : Act) w, a.defers = a'.defers → Q (.panic c) a w → Q (.panic c) a' w
theorem put_defers (a : Act) (N : Option Tmp) (v : Value) : (a.put N v).defers = a.defers := by cases N <;> rfl
/-- What all steps of one region share. -/
structure Ctx (P : Program) (md : Region.Mode) (ops : Array Oper) (Q : Exit → Act → World → Prop) (n N : Nat) (tb : List Ent) : Prop where
  tabd : Tabd md ops N tb
  pf : PanicFree Q
  small : n ≤ 1000000
theorem bl_zero (N : Nat) : Array.replicate N false = bl N 0 := by
  apply Array.ext_getElem?
  intro i
  by_cases h : i < N <;> simp [bl, h, Array.getElem?_replicate]
theorem startz (zs : List Nat) {id : Nat} {ops0 : Array Oper} {l0 : List Value} (ops : Array Oper) (S : World → Prop) (n N wm : Nat) (L : List (Nat × Value)) (tb : List Ent) (hops : ops0 = ops) (hm : P.follows .mixedOrders = true) (hT : Tabd .any ops N tb) (hn : n ≤ 1000000) (hQ : PanicFree Q) (hs : l0.length = n) (hF : conj ⟨l0.toArray, []⟩ L) (hS : S w.drew)
    (h : ∀ Q' : Exit → Act → World → Prop, Ctx P .any ops Q' n N tb → Aside0 (∀ a w, Q .normal a w → Q' .normal a w) → S w.drew → At P .any ops Q' S n N ⟨[], wm, l0, zs⟩ 0 N L w.drew) : (Code.region id ops0 true).wp P Q ⟨l0.toArray, []⟩ w := by
  subst hops
  refine start_ (S := S) (ds := zs) (bl N 0) hm hT.size (bl_zero N) hS (fun hS' => h Q ⟨hT, hQ, hn⟩ ⟨fun _ _ h => h⟩ hS' _ (Fr.mk' (by simpa using hs) rfl (fun t _ => ?_) hF))
  simp [Array.getD_eq_getD_getElem?, List.getD_eq_getElem?_getD]
theorem start {id : Nat} {ops0 : Array Oper} {l0 : List Value} (ops : Array Oper) (S : World → Prop) (n N wm : Nat) (L : List (Nat × Value)) (tb : List Ent) (hops : ops0 = ops) (hm : P.follows .mixedOrders = true) (hT : Tabd .any ops N tb) (hn : n ≤ 1000000) (hQ : PanicFree Q) (hs : l0.length = n) (hF : conj ⟨l0.toArray, []⟩ L) (hS : S w.drew)
    (h : ∀ Q' : Exit → Act → World → Prop, Ctx P .any ops Q' n N tb → Aside0 (∀ a w, Q .normal a w → Q' .normal a w) → S w.drew → At P .any ops Q' S n N ⟨[], wm, l0, []⟩ 0 N L w.drew) : (Code.region id ops0 true).wp P Q ⟨l0.toArray, []⟩ w :=
  startz [] ops S n N wm L tb hops hm hT hn hQ hs hF hS h
/-- Checks of a step that writes slot t. -/
def dstB (wm : Nat) (tb : List Ent) (n i t : Nat) (L : List (Nat × Value)) (wt : Bool) : Bool :=
  match tb[i]? with
  | some e => (match e.dst with | some s => Nat.beq s t | none => false) && Nat.blt t n && Nat.testBit wm t && (match wa n L e.grd with | some b => b == wt | none => false)
  | none => false
theorem dst_of (hT : Tabd md ops N tb) {i t : Nat} {wt : Bool} {wm : Nat} (h : dstB wm tb n i t L wt = true) : ∃ o e, ops[i]? = some o ∧ tb[i]? = some e ∧ e.op = o.op ∧ o.dst = some t ∧ (t < n ∧ wm.testBit t = true) ∧ wa n L (gOf ops o) = some wt := by
  unfold dstB at h
  cases he : tb[i]? with
  | none => rw [he] at h; cases h
  | some e =>
    rw [he] at h
    obtain ⟨o, ho, e0⟩ := hT.ent he
    subst e0
    simp only [Bool.and_eq_true] at h
    obtain ⟨⟨⟨h1, h2⟩, h2w⟩, h3⟩ := h
    refine ⟨o, _, ho, rfl, rfl, ?_, ⟨by rw [Nat.blt_eq] at h2; exact h2, h2w⟩, ?_⟩
    · cases hd : o.dst with
      | none => rw [hd] at h1; cases h1
      | some s => rw [hd] at h1; rw [Nat.eq_of_beq_eq_true h1]
    · cases hw : wa n L (gOf ops o) with
      | none => rw [hw] at h3; cases h3
      | some b => rw [hw] at h3; simp at h3; rw [h3]
def opAt (tb : List Ent) (i : Nat) : Option Op := (tb[i]?).map (·.op)
def mvX (tb : List Ent) (i : Nat) : Option Operand := match tb[i]? with
  | some e => (match e.op with | .move x => some x | .assign x => some x | _ => none)
  | none => none
theorem mvX_of {i : Nat} {x : Operand} {e : Ent} (he : tb[i]? = some e) (h : mvX tb i = some x) : e.op = .move x ∨ e.op = .assign x := by
  unfold mvX at h
  rw [he] at h
  simp only at h
  split at h
  · rename_i y e2; cases h; exact .inl e2
  · rename_i y e2; cases h; exact .inr e2
  · cases h
def chkMove (wm : Nat) (tb : List Ent) (n N : Nat) (L : List (Nat × Value)) (m i t m' : Nat) : Bool := anyM tb N m m' i && dstB wm tb n i t L true && (match mvX tb i with | some x => knO L x | none => false)
/-- A move, an assign. -/
theorem move {m k : Nat} (C : Ctx P md ops Q n N tb) (i t m' : Nat) (v : Value) (hc : chkMove D.wm tb n N L m i t m' = true) (hv : (mvX tb i).map (ev L) = some v)
    (h : At P md ops Q S n N D m' k ((t, v) :: L) w) : At P md ops Q S n N D m (k + 1) L w := by
  intro a hF
  simp only [chkMove, Bool.and_eq_true] at hc
  obtain ⟨⟨h1, h2⟩, h3⟩ := hc
  obtain ⟨o, e, ho, he, heo, hd, ht, hw⟩ := dst_of C.tabd h2
  refine pure_ (i := i) (N := some t) (v := v) (a' := a.put (some t) v) (bl N m') ho hd (anyM_of C.tabd h1) (fun c a w => C.pf c _ _ w (put_defers _ _ _)) (.inl ⟨hF.wanted C.small hw, fun w' => ?_⟩) rfl (h _ (hF.put ht.1 ht.2 v))
  obtain ⟨x, hx, hxv⟩ := Option.map_eq_some_iff.1 hv
  rw [hx] at h3
  have hop := mvX_of he hx
  rw [heo] at hop
  have e := hF.ev h3
  rw [hxv] at e
  rcases hop with hop | hop <;> simp [execOp, hop, e]
def pkX (tb : List Ent) (L : List (Nat × Value)) (i : Nat) : Option Operand := match tb[i]? with
  | some e => (match e.op with
    | .pick c x y => bif knO L c then (match ev L c with | .bool true => some x | .bool false => some y | _ => none) else none
    | _ => none)
  | none => none
theorem pkX_of {i : Nat} {z : Operand} {e : Ent} (he : tb[i]? = some e) (h : pkX tb L i = some z) : ∃ c x y b, e.op = .pick c x y ∧ knO L c = true ∧ ev L c = .bool b ∧ z = if b = true then x else y := by
  unfold pkX at h
  rw [he] at h
  simp only at h
  split at h
  · rename_i c x y e
    cases hk : knO L c
    · rw [hk] at h; cases h
    · rw [hk] at h
      simp only [cond_true] at h
      split at h
      · rename_i e2
        cases h
        exact ⟨c, _, _, true, e, hk, e2, rfl⟩
      · rename_i e2
        cases h
        exact ⟨c, _, _, false, e, hk, e2, rfl⟩
      · cases h
  · cases h
def chkPick (wm : Nat) (tb : List Ent) (n N : Nat) (L : List (Nat × Value)) (m i t m' : Nat) : Bool := anyM tb N m m' i && dstB wm tb n i t L true && (match pkX tb L i with | some x => knO L x | none => false)
/-- A pick. -/
theorem pick {m k : Nat} (C : Ctx P md ops Q n N tb) (i t m' : Nat) (v : Value) (hc : chkPick D.wm tb n N L m i t m' = true) (hv : (pkX tb L i).map (ev L) = some v)
    (h : At P md ops Q S n N D m' k ((t, v) :: L) w) : At P md ops Q S n N D m (k + 1) L w := by
  intro a hF
  simp only [chkPick, Bool.and_eq_true] at hc
  obtain ⟨⟨h1, h2⟩, h3⟩ := hc
  obtain ⟨o, e, ho, he, heo, hd, ht, hw⟩ := dst_of C.tabd h2
  refine pure_ (i := i) (N := some t) (v := v) (a' := a.put (some t) v) (bl N m') ho hd (anyM_of C.tabd h1) (fun c a w => C.pf c _ _ w (put_defers _ _ _)) (.inl ⟨hF.wanted C.small hw, fun w' => ?_⟩) rfl (h _ (hF.put ht.1 ht.2 v))
  obtain ⟨z, hx, hxv⟩ := Option.map_eq_some_iff.1 hv
  rw [hx] at h3
  obtain ⟨c, x, y, b, hop, hk, hb, rfl⟩ := pkX_of he hx
  rw [heo] at hop
  have e := hF.ev h3
  rw [hxv] at e
  have e2 := (hF.ev hk).trans hb
  cases b
  · simp only [if_neg (show ¬ (false = true) by simp)] at e
    simp [execOp, hop, e2, asBool, e]
  · simp only [if_true] at e
    simp [execOp, hop, e2, asBool, e]
def chkOff (wm : Nat) (tb : List Ent) (n N : Nat) (L : List (Nat × Value)) (m i t m' : Nat) : Bool := anyM tb N m m' i && dstB wm tb n i t L false
/-- An operation that is not asked for. -/
theorem off {m k : Nat} (C : Ctx P md ops Q n N tb) (i t m' : Nat) (hc : chkOff D.wm tb n N L m i t m' = true)
    (h : At P md ops Q S n N D m' k ((t, undef) :: L) w) : At P md ops Q S n N D m (k + 1) L w := by
  intro a hF
  simp only [chkOff, Bool.and_eq_true] at hc
  obtain ⟨h1, h2⟩ := hc
  obtain ⟨o, e, ho, he, heo, hd, ht, hw⟩ := dst_of C.tabd h2
  exact pure_ (i := i) (N := some t) (v := undef) (a' := a.put (some t) undef) (bl N m') ho hd (anyM_of C.tabd h1) (fun c a w => C.pf c _ _ w (put_defers _ _ _)) (.inr ⟨hF.wanted C.small hw, rfl⟩) rfl (h _ (hF.put ht.1 ht.2 _))
theorem xs_of {xs : List (Operand × Value)} (hx : xs.map (fun p => ev L p.1) = xs.map (·.2)) : ∀ q ∈ xs, ev L q.1 = q.2 := by
  intro q hq
  induction xs with
  | nil => cases hq
  | cons y r ih =>
    simp only [List.map_cons, List.cons.injEq] at hx
    rcases List.mem_cons.1 hq with rfl | hq
    · exact hx.1
    · exact ih hx.2 hq
def chkGen (wm : Nat) (tb : List Ent) (n N : Nat) (L : List (Nat × Value)) (m i t m' : Nat) (xs : List Operand) : Bool := anyM tb N m m' i && closedM m tb 0 && dstB wm tb n i t L true && xs.all (knO L)
/-- Any operation that reads what S tells and makes nothing, told by its 'op' alone. -/
theorem gen {m k : Nat} (C : Ctx P md ops Q n N tb) (hS : S w) (i t m' : Nat) (v : Value) (op : Op) (xs : List (Operand × Value)) (hi : opAt tb i = some op) (hc : chkGen D.wm tb n N L m i t m' (xs.map (·.1)) = true) (hx : xs.map (fun p => ev L p.1) = xs.map (·.2))
    (hrun : ∀ o : Oper, o.op = op → ∀ ρ : Operand → Value, (∀ p ∈ xs, ρ p.1 = p.2) → ∀ w, S w → (execOp ρ o).run P w = .ok (.value v) w)
    (h : At P md ops Q S n N D m' k ((t, v) :: L) w) (hl : lastM tb D.ds i = true := by kernel_rfl) : At P md ops Q S n N D m (k + 1) L w := by
  intro a hF
  simp only [chkGen, Bool.and_eq_true] at hc
  obtain ⟨⟨⟨h1, h0⟩, h2⟩, h3⟩ := hc
  obtain ⟨o, e, ho, he, heo, hd, ht, hw⟩ := dst_of C.tabd h2
  have hop : o.op = op := by
    unfold opAt at hi
    rw [he] at hi
    rw [← heo]
    exact Option.some.inj hi
  refine take_ (i := i) (N := some t) (v := v) (a' := a.put (some t) v) (bl N m') ho hd (takeM_of C.tabd (by rw [h1, h0]; rfl) hl) (fun c a w => C.pf c _ _ w (put_defers _ _ _)) (.inl ⟨hF.wanted C.small hw, hrun o hop a.eval (fun p hp => ?_)⟩) hS rfl (h _ (hF.put ht.1 ht.2 v))
  rw [hF.ev (List.all_eq_true.1 h3 p.1 (List.mem_map.2 ⟨p, hp, rfl⟩))]
  exact xs_of hx p hp
def callX (tb : List Ent) (i : Nat) : Option (Operand × Array Operand) := match tb[i]? with
  | some e => (match e.op with | .call c => (match c.callee with | .value x => some (x, c.args) | _ => none) | _ => none)
  | none => none
theorem callX_of {i : Nat} {x : Operand} {os : Array Operand} {e : Ent} (he : tb[i]? = some e) (h : callX tb i = some (x, os)) : ∃ c, e.op = .call c ∧ c.callee = .value x ∧ c.args = os := by
  unfold callX at h
  rw [he] at h
  simp only at h
  split at h
  · rename_i c e
    split at h
    · rename_i y e2
      cases h
      exact ⟨c, e, e2, rfl⟩
    · cases h
  · cases h
def chkCall (wm : Nat) (tb : List Ent) (n N : Nat) (L : List (Nat × Value)) (m i t m' : Nat) : Bool := oneM tb N m m' i && dstB wm tb n i t L true && (match callX tb i with | some x => knO L x.1 && x.2.all (knO L) | none => false)
/-- A call of a Go function, the only operation that may come up. -/
theorem call {m k : Nat} (C : Ctx P md ops Q n N tb) (i t m' : Nat) {f : FuncId} {fn : Func} (args : Array Value) (hc : chkCall D.wm tb n N L m i t m' = true)
    (hf : P.funcs[f]? = some fn) (hname : (fn.name == "runtime.NumGoroutine") = false) (hb : fn.body.isSome = true)
    (hv : (callX tb i).map (fun x => (ev L x.1, x.2.map (ev L))) = some (.func (.func f) #[] #[], args))
    (h : Calls P f args w fun e w' => ∃ v, e = .returned v ∧ S w' ∧ At P md ops Q S n N D m' k ((t, v) :: L) w') (hnd : nin D.ds i = true := by kernel_rfl) : At P md ops Q S n N D m (k + 1) L w := by
  intro a hF
  simp only [chkCall, Bool.and_eq_true] at hc
  obtain ⟨⟨h1, h2⟩, h3⟩ := hc
  obtain ⟨o, e, ho, he, heo, hdd, ht, hw⟩ := dst_of C.tabd h2
  refine one_ (i := i) (N := some t) (bl N m') ho hdd (oneM_of C.tabd h1) (nin_of hnd) (fun K hK => ?_)
  obtain ⟨⟨x, os⟩, hx, hxv⟩ := Option.map_eq_some_iff.1 hv
  rw [hx] at h3
  obtain ⟨c, hop, hcal, rfl⟩ := callX_of he hx
  rw [heo] at hop
  rw [Bool.and_eq_true] at h3
  have e1 := hF.ev h3.1
  rw [(Prod.mk.inj hxv).1] at e1
  have e2 : c.args.map a.eval = args := by
    rw [← (Prod.mk.inj hxv).2]
    apply Array.map_congr_left
    intro y hy
    exact hF.ev (Array.all_eq_true_iff_forall_mem.1 h3.2 y hy)
  refine call_ f args (hF.wanted C.small hw) hdd ?_ (h.mono ?_)
  · have he := enters_ hf hname hb args w
    unfold execOp
    simp [hop, hcal, resolve, Deferred.ofValue, invoke, e1, e2, he]
  · rintro e w' ⟨v, rfl, hS', hA⟩
    exact ⟨v, rfl, hK.out _ _ hS' (fun _ => hA _ (hF.put ht.1 ht.2 v))⟩
/-- A call of a closure: what it has bound stands behind the arguments. -/
theorem callb {m k : Nat} (C : Ctx P md ops Q n N tb) (i t m' : Nat) {f : FuncId} {fn : Func} (cb : Array Value) (args : Array Value) (hc : chkCall D.wm tb n N L m i t m' = true)
    (hf : P.funcs[f]? = some fn) (hname : (fn.name == "runtime.NumGoroutine") = false) (hb : fn.body.isSome = true)
    (hv : (callX tb i).map (fun x => (ev L x.1, x.2.map (ev L))) = some (.func (.func f) #[] cb, args))
    (h : Calls P f (args ++ cb) w fun e w' => ∃ v, e = .returned v ∧ S w' ∧ At P md ops Q S n N D m' k ((t, v) :: L) w') (hnd : nin D.ds i = true := by kernel_rfl) : At P md ops Q S n N D m (k + 1) L w := by
  intro a hF
  simp only [chkCall, Bool.and_eq_true] at hc
  obtain ⟨⟨h1, h2⟩, h3⟩ := hc
  obtain ⟨o, e, ho, he, heo, hdd, ht, hw⟩ := dst_of C.tabd h2
  refine one_ (i := i) (N := some t) (bl N m') ho hdd (oneM_of C.tabd h1) (nin_of hnd) (fun K hK => ?_)
  obtain ⟨⟨x, os⟩, hx, hxv⟩ := Option.map_eq_some_iff.1 hv
  rw [hx] at h3
  obtain ⟨c, hop, hcal, rfl⟩ := callX_of he hx
  rw [heo] at hop
  rw [Bool.and_eq_true] at h3
  have e1 := hF.ev h3.1
  rw [(Prod.mk.inj hxv).1] at e1
  have e2 : c.args.map a.eval = args := by
    rw [← (Prod.mk.inj hxv).2]
    apply Array.map_congr_left
    intro y hy
    exact hF.ev (Array.all_eq_true_iff_forall_mem.1 h3.2 y hy)
  refine call_ f (args ++ cb) (hF.wanted C.small hw) hdd ?_ (h.mono ?_)
  · have he := enters_ hf hname hb (args ++ cb) w
    unfold execOp
    simp [hop, hcal, resolve, Deferred.ofValue, invoke, e1, e2, he]
  · rintro e w' ⟨v, rfl, hS', hA⟩
    exact ⟨v, rfl, hK.out _ _ hS' (fun _ => hA _ (hF.put ht.1 ht.2 v))⟩
def chkMake (wm : Nat) (tb : List Ent) (n N : Nat) (L : List (Nat × Value)) (m i t m' : Nat) (xs : List Operand) : Bool := oneM tb N m m' i && dstB wm tb n i t L true && xs.all (knO L)
/-- An operation that makes memory (an alloc, a build ..), the only one that may come up. -/
theorem make {m k : Nat} (C : Ctx P md ops Q n N tb) (i t m' : Nat) (v : Value) (w1 : World) (op : Op) (xs : List (Operand × Value)) (hi : opAt tb i = some op) (hc : chkMake D.wm tb n N L m i t m' (xs.map (·.1)) = true) (hx : xs.map (fun p => ev L p.1) = xs.map (·.2))
    (hrun : ∀ o : Oper, o.op = op → ∀ ρ : Operand → Value, (∀ p ∈ xs, ρ p.1 = p.2) → (execOp ρ o).run P w = .ok (.value v) w1) (hS : S w1)
    (h : At P md ops Q S n N D m' k ((t, v) :: L) w1) (hnd : nin D.ds i = true := by kernel_rfl) : At P md ops Q S n N D m (k + 1) L w := by
  intro a hF
  simp only [chkMake, Bool.and_eq_true] at hc
  obtain ⟨⟨h1, h2⟩, h3⟩ := hc
  obtain ⟨o, e, ho, he, heo, hdd, ht, hw⟩ := dst_of C.tabd h2
  have hop : o.op = op := by
    unfold opAt at hi
    rw [he] at hi
    rw [← heo]
    exact Option.some.inj hi
  refine one_ (i := i) (N := some t) (bl N m') ho hdd (oneM_of C.tabd h1) (nin_of hnd) (fun K hK => ?_)
  refine value_ (hF.wanted C.small hw) hdd (hrun o hop a.eval (fun p hp => ?_)) (hK.out _ _ hS (fun _ => h _ (hF.put ht.1 ht.2 v)))
  rw [hF.ev (List.all_eq_true.1 h3 p.1 (List.mem_map.2 ⟨p, hp, rfl⟩))]
  exact xs_of hx p hp
def pairL (r : List Nat) (i j : Nat) : Bool := match r with | [x, y] => Nat.beq x i && Nat.beq y j | _ => false
def chkTwo (wm : Nat) (tb : List Ent) (n N : Nat) (L : List (Nat × Value)) (m i ti mi j tj mj : Nat) (xi xj : List Operand) : Bool :=
  pairL (rdL m tb 0) i j && Nat.blt m (2 ^ N) && Nat.blt i N && Nat.blt j N && Nat.beq mi (Nat.lor m (2 ^ i)) && Nat.beq mj (Nat.lor m (2 ^ j)) && dstB wm tb n i ti L true && dstB wm tb n j tj L true && xi.all (knO L) && xj.all (knO L)
/-- Two operations that make memory may come up: each order is walked. -/
theorem two {m k : Nat} (C : Ctx P md ops Q n N tb) (i ti mi : Nat) (vi : Value) (w1 : World) (opi : Op) (xi : List (Operand × Value)) (j tj mj : Nat) (vj : Value) (w2 : World) (opj : Op) (xj : List (Operand × Value))
    (hi : opAt tb i = some opi) (hj : opAt tb j = some opj) (hc : chkTwo D.wm tb n N L m i ti mi j tj mj (xi.map (·.1)) (xj.map (·.1)) = true) (hxi : xi.map (fun p => ev L p.1) = xi.map (·.2)) (hxj : xj.map (fun p => ev L p.1) = xj.map (·.2))
    (hri : ∀ o : Oper, o.op = opi → ∀ ρ : Operand → Value, (∀ p ∈ xi, ρ p.1 = p.2) → (execOp ρ o).run P w = .ok (.value vi) w1) (hS1 : S w1)
    (hrj : ∀ o : Oper, o.op = opj → ∀ ρ : Operand → Value, (∀ p ∈ xj, ρ p.1 = p.2) → (execOp ρ o).run P w = .ok (.value vj) w2) (hS2 : S w2)
    (h1 : At P md ops Q S n N D mi k ((ti, vi) :: L) w1) (h2 : At P md ops Q S n N D mj k ((tj, vj) :: L) w2) (hndi : nin D.ds i = true := by kernel_rfl) (hndj : nin D.ds j = true := by kernel_rfl) : At P md ops Q S n N D m (k + 1) L w := by
  intro a hF
  simp only [chkTwo, Bool.and_eq_true] at hc
  obtain ⟨⟨⟨⟨⟨⟨⟨⟨⟨c1, c2⟩, c3⟩, c4⟩, c5⟩, c6⟩, c7⟩, c8⟩, c9⟩, c10⟩ := hc
  rw [Nat.blt_eq] at c2 c3 c4
  obtain ⟨oi, ei, hoi, hei, heoi, hdi, hti, hwi⟩ := dst_of C.tabd c7
  obtain ⟨oj, ej, hoj, hej, heoj, hdj, htj, hwj⟩ := dst_of C.tabd c8
  have hopi : oi.op = opi := by
    unfold opAt at hi
    rw [hei] at hi
    rw [← heoi]
    exact Option.some.inj hi
  have hopj : oj.op = opj := by
    unfold opAt at hj
    rw [hej] at hj
    rw [← heoj]
    exact Option.some.inj hj
  have hr : Region.ready md ops (bl N m) = [i, j] := by
    rw [ready_bl C.tabd c2]
    unfold pairL at c1
    split at c1
    · rename_i x y e
      rw [Bool.and_eq_true] at c1
      rw [e, Nat.eq_of_beq_eq_true c1.1, Nat.eq_of_beq_eq_true c1.2]
    · cases c1
  have hsi : (bl N m).setIfInBounds i true = bl N mi := by rw [bl_set c3, Nat.eq_of_beq_eq_true c5]
  have hsj : (bl N m).setIfInBounds j true = bl N mj := by rw [bl_set c4, Nat.eq_of_beq_eq_true c6]
  refine two_ (i := i) (j := j) (Ni := some ti) (Nj := some tj) (bl N mi) (bl N mj) hoi hoj hdi hdj (by simp only [Bool.and_eq_true, beq_iff_eq]; exact ⟨⟨hr, hsi⟩, hsj⟩) (nin_of hndi) (nin_of hndj) (fun K hK => ?_) (fun K hK => ?_)
  · refine value_ (hF.wanted C.small hwi) hdi (hri oi hopi a.eval (fun p hp => ?_)) (hK.out _ _ hS1 (fun _ => h1 _ (hF.put hti.1 hti.2 vi)))
    rw [hF.ev (List.all_eq_true.1 c9 p.1 (List.mem_map.2 ⟨p, hp, rfl⟩))]
    exact xs_of hxi p hp
  · refine value_ (hF.wanted C.small hwj) hdj (hrj oj hopj a.eval (fun p hp => ?_)) (hK.out _ _ hS2 (fun _ => h2 _ (hF.put htj.1 htj.2 vj)))
    rw [hF.ev (List.all_eq_true.1 c10 p.1 (List.mem_map.2 ⟨p, hp, rfl⟩))]
    exact xs_of hxj p hp
def chkRaw (wm : Nat) (tb : List Ent) (n N : Nat) (L : List (Nat × Value)) (m i t m' : Nat) : Bool := oneM tb N m m' i && dstB wm tb n i t L true
/-- Any operation by hand (an append ..), the only one that may come up. -/
theorem raw {m k : Nat} (C : Ctx P md ops Q n N tb) (i t m' : Nat) (op : Op) (hi : opAt tb i = some op) (hc : chkRaw D.wm tb n N L m i t m' = true)
    (h : ∀ a, Fr n D L a → ∀ o : Oper, o.op = op → o.dst = some t → Region.wanted o (yielded ops a.tmps) = true → ∀ K : Act → World → Prop, Shut (∀ v w', S w' → At P md ops Q S n N D m' k ((t, v) :: L) w' → K (a.put o.dst v) w') → if Region.wanted o (yielded ops a.tmps) = true then Oper.wp P o a w K Q else K (a.put o.dst undef) w) (hnd : nin D.ds i = true := by kernel_rfl) : At P md ops Q S n N D m (k + 1) L w := by
  intro a hF
  simp only [chkRaw, Bool.and_eq_true] at hc
  obtain ⟨h1, h2⟩ := hc
  obtain ⟨o, e, ho, he, heo, hdd, ht, hw⟩ := dst_of C.tabd h2
  have hop : o.op = op := by
    unfold opAt at hi
    rw [he] at hi
    rw [← heo]
    exact Option.some.inj hi
  refine one_ (i := i) (N := some t) (bl N m') ho hdd (oneM_of C.tabd h1) (nin_of hnd) (fun K hK => ?_)
  rw [← hdd]
  refine h a hF o hop hdd (hF.wanted C.small hw) K (fun v w' hS' hA => ?_)
  rw [hdd]
  exact hK.out _ _ hS' (fun _ => hA _ (hF.put ht.1 ht.2 v))
def chkLast (wm : Nat) (ds : List Nat) (tb : List Ent) (n N : Nat) (L : List (Nat × Value)) (m i m' : Nat) : Bool := oneM tb N m m' i && ds.contains i && (match tb[i]? with
  | some e => (match e.dst with | none => true | some _ => false) && (match wa n L e.grd with | some b => b | none => false)
  | none => false)
/-- A store that comes last: nothing is asked of the world behind it. -/
theorem last {m k : Nat} (C : Ctx P md ops Q n N tb) (i m' : Nat) (op : Op) (hi : opAt tb i = some op) (hc : chkLast D.wm D.ds tb n N L m i m' = true)
    (h : ∀ a, Fr n D L a → ∀ o : Oper, o.op = op → o.dst = none → ∀ K : Act → World → Prop, (∀ w', At P md ops Q S n N D m' k L w' → K a w') → Oper.wp P o a w K Q) : At P md ops Q S n N D m (k + 1) L w := by
  intro a hF
  simp only [chkLast, Bool.and_eq_true] at hc
  obtain ⟨⟨h1, h2⟩, h3⟩ := hc
  unfold opAt at hi
  cases he : tb[i]? with
  | none => rw [he] at hi; cases hi
  | some e =>
    rw [he] at hi h3
    obtain ⟨o, ho, e0⟩ := C.tabd.ent he
    subst e0
    have hop : o.op = op := Option.some.inj hi
    simp only at h3
    rw [Bool.and_eq_true] at h3
    have hd : o.dst = none := by
      cases hd : o.dst with
      | none => rfl
      | some s => rw [hd] at h3; cases h3.1
    have hw : Region.wanted o (yielded ops a.tmps) = true := by
      cases hw : wa n L (gOf ops o) with
      | none => rw [hw] at h3; cases h3.2
      | some b => rw [hw] at h3; rw [hF.wanted C.small hw]; exact h3.2
    refine last_ (i := i) (N := none) (bl N m') ho hd (oneM_of C.tabd h1) (by rwa [List.contains_iff_mem] at h2) (fun K hK => ?_)
    rw [if_pos hw]
    exact h a hF o hop hd K (fun w' hA => hK.out _ _ (hA _ hF))
def chkDone (tb : List Ent) (N m : Nat) : Bool := (rdL m tb 0).isEmpty && Nat.blt m (2 ^ N)
/-- All have come up. -/
theorem done {m k : Nat} (C : Ctx P md ops Q n N tb) (hr : chkDone tb N m = true) (h : ∀ a, Fr n D L a → Q .normal a w) : At P md ops Q S n N D m k L w := fun a hF => by
  simp only [chkDone, Bool.and_eq_true] at hr
  rw [Nat.blt_eq] at hr
  refine done_ ?_ (h a hF)
  rw [ready_bl C.tabd hr.2]
  simpa using hr.1
/-- The act as a literal frame again: slots that the row does not know are 'u t'. -/
theorem Fr.lit (h : Fr n D L a) : a = ⟨((List.range n).map fun t => bif kn L t then lk L t else a.tmps.getD t undef).toArray, D.defs⟩ := by
  obtain ⟨tm, df⟩ := a
  have hd : df = D.defs := h.defers
  rw [← hd]
  congr 1
  apply Array.ext_getElem?
  intro i
  rcases Nat.lt_or_ge i n with hi | hi
  · have hs : i < tm.size := by rw [show tm.size = n from h.size]; exact hi
    simp only [List.getElem?_toArray, List.getElem?_map]
    rw [List.getElem?_range hi, Array.getElem?_eq_getElem hs]
    simp only [Option.map_some, Option.some.injEq]
    cases hk : kn L i
    · simp [Array.getD_eq_getD_getElem?, hs]
    · have := h.get i hk
      simp only [Array.getD_eq_getD_getElem?, Array.getElem?_eq_getElem hs, Option.getD_some] at this
      simp [this]
  · rw [Array.getElem?_eq_none (by rw [show tm.size = n from h.size]; exact hi)]
    simp [hi]
theorem Fr.sub {L' : List (Nat × Value)} (h : Fr n D L a) (hk : L'.all (fun p => kn L p.1) = true) (hv : L'.map (fun p => lk L p.1) = L'.map (·.2)) : Fr n D L' a := by
  refine Fr.mk' h.size h.defers h.keep ?_
  induction L' with
  | nil => trivial
  | cons p r ih =>
    obtain ⟨t, v⟩ := p
    rw [List.all_cons, Bool.and_eq_true] at hk
    simp only [List.map_cons, List.cons.injEq] at hv
    exact ⟨(h.get t hk.1).trans hv.1, ih hk.2 hv.2⟩
/-- A state from what fewer slots tell. -/
theorem At.sub {m k : Nat} {L' : List (Nat × Value)} (h : At P md ops Q S n N D m k L' w) (hk : L'.all (fun p => kn L p.1) = true) (hv : L'.map (fun p => lk L p.1) = L'.map (·.2)) : At P md ops Q S n N D m k L w := fun a hF => h a (hF.sub hk hv)
theorem done_lit {m k : Nat} (C : Ctx P md ops Q n N tb) (L' : List (Nat × Value)) (fr : (Nat → Value) → List Value) (hr : chkDone tb N m = true) (hk : L'.all (fun p => kn L p.1) = true) (hv : L'.map (fun p => lk L p.1) = L'.map (·.2)) (hfr : (fun u : Nat → Value => (List.range n).map fun t => bif kn L' t then lk L' t else u t) = fr) (h : ∀ u : Nat → Value, Q .normal ⟨(fr u).toArray, D.defs⟩ w) : At P md ops Q S n N D m k L w := by
  refine done C hr (fun a hF => ?_)
  rw [(hF.sub hk hv).lit]
  subst hfr
  exact h (fun t => a.tmps.getD t undef)
/-- A row with some places set. -/
def sets (l : List Value) (ps : List (Nat × Value)) : List Value := ps.foldl (fun l p => l.set p.1 p.2) l
theorem sets_len : ∀ (ps : List (Nat × Value)) (l : List Value), (sets l ps).length = l.length
  | [], _ => rfl
  | p :: r, l => by rw [sets, List.foldl_cons]; exact (sets_len r _).trans (by simp)
theorem sets_get {v : Nat → Value} : ∀ (ps : List (Nat × Value)) (l : List Value) (t : Nat), t < l.length → (∀ p ∈ ps, p.2 = v p.1) → (ps.any (fun p => p.1 == t) = false → l.getD t undef = v t) → (sets l ps).getD t undef = v t
  | [], l, t, _, _, h => h rfl
  | p :: r, l, t, ht, hv, h => by
    rw [sets, List.foldl_cons]
    refine sets_get r _ t (by simpa using ht) (fun q hq => hv q (List.mem_cons_of_mem _ hq)) (fun hr => ?_)
    by_cases e : p.1 = t
    · subst e
      rw [List.getD_eq_getElem?_getD, List.getElem?_set_self ht]
      exact hv p List.mem_cons_self
    · rw [List.getD_eq_getElem?_getD, List.getElem?_set_ne e, ← List.getD_eq_getElem?_getD]
      exact h (by rw [List.any_cons, hr, Bool.or_false]; simpa using e)
theorem opt_of {ps : List (Nat × Option Value)} (hv : ps.map (fun p => p.2.map fun _ => lk L p.1) = ps.map (·.2)) : ∀ p ∈ ps, (p.2.map fun _ => lk L p.1) = p.2 := by
  intro p hp
  induction ps with
  | nil => cases hp
  | cons y r ih =>
    simp only [List.map_cons, List.cons.injEq] at hv
    rcases List.mem_cons.1 hp with rfl | hp
    · exact hv.1
    · exact ih hv.2 hp
/-- What follows is shown once: s what the orders leave. -/
theorem join {σ : Type} {m k : Nat} (m' k' : Nat) (L' : σ → List (Nat × Value)) (F : σ → World → Prop) (hcont : ∀ s W, F s W → At P md ops Q S n N D m' k' (L' s) W)
    (h : (∀ s W, F s W → At P md ops Q S n N D m' k' (L' s) W) → At P md ops Q S n N D m k L w) : At P md ops Q S n N D m k L w := h hcont
def covB (n wm : Nat) (ps : List (Nat × Option Value)) : Bool := (List.range n).all (fun t => !Nat.testBit wm t || ps.any (fun p => Nat.beq p.1 t))
/-- All have come up: the act is the one at the start with the written slots set ('u t' where the value is not asked). -/
theorem done_set {m k : Nat} (C : Ctx P md ops Q n N tb) (ps : List (Nat × Option Value)) (hl : D.l0.length = n) (hr : chkDone tb N m = true) (hcov : covB n D.wm ps = true) (hk : ps.all (fun p => match p.2 with | some _ => kn L p.1 | none => true) = true) (hv : ps.map (fun p => p.2.map fun _ => lk L p.1) = ps.map (·.2))
    (h : ∀ u : Nat → Value, Q .normal ⟨(sets D.l0 (ps.map fun p => (p.1, p.2.getD (u p.1)))).toArray, D.defs⟩ w) : At P md ops Q S n N D m k L w := by
  refine done C hr (fun a hF => ?_)
  have e : a = ⟨(sets D.l0 (ps.map fun p => (p.1, p.2.getD (a.tmps.getD p.1 undef)))).toArray, D.defs⟩ := by
    have hd := hF.defers
    have hs := hF.size
    obtain ⟨tm, df⟩ := a
    simp only at hd hs
    rw [← hd]
    congr 1
    apply Array.ext_getElem?
    intro i
    rcases Nat.lt_or_ge i n with hi | hi
    · have hg := sets_get (v := fun t => tm.getD t undef) (ps.map fun p => (p.1, p.2.getD (tm.getD p.1 undef))) D.l0 i (by rw [hl]; exact hi) (fun q hq => by
          obtain ⟨p, hp, rfl⟩ := List.mem_map.1 hq
          show p.2.getD (tm.getD p.1 undef) = tm.getD p.1 undef
          have h1 := List.all_eq_true.1 hk p hp
          have h2 := opt_of hv
          have h3 := h2 p hp
          cases hq : p.2 with
          | none => rfl
          | some v =>
            rw [hq] at h1 h3
            simp only [Option.map_some, Option.some.injEq] at h3
            rw [Option.getD_some, ← h3]
            exact (hF.get p.1 h1).symm) (fun ha => by
          have hb := List.all_eq_true.1 hcov i (List.mem_range.2 hi)
          have hc : ps.any (fun p => Nat.beq p.1 i) = false := by
            rw [List.any_map] at ha
            rw [List.any_eq_false] at ha ⊢
            intro p hp hx
            exact ha p hp (by simpa using Nat.eq_of_beq_eq_true hx)
          rw [hc, Bool.or_false] at hb
          exact (hF.keep i (by simpa using hb)).symm)
      have hs' : i < tm.size := by omega
      have hl' : i < (sets D.l0 (ps.map fun p => (p.1, p.2.getD (tm.getD p.1 undef)))).length := by rw [sets_len, hl]; exact hi
      rw [List.getD_eq_getElem?_getD, List.getElem?_eq_getElem hl', Option.getD_some] at hg
      simp only [List.getElem?_toArray]
      rw [Array.getElem?_eq_getElem hs', List.getElem?_eq_getElem hl', hg]
      simp [Array.getD_eq_getD_getElem?, hs']
    · rw [Array.getElem?_eq_none (by omega)]
      simp only [List.getElem?_toArray]
      rw [List.getElem?_eq_none (by rw [sets_len, hl]; exact hi)]
  rw [e]
  exact h (fun t => a.tmps.getD t undef)
end
end Rg
end Go.Proofs.YtfkkefhijhjaaaaDoor
