import Derived.Test.YtgdieejhglhkcaaGreatDoorTuA
import Derived.Test.YtgdieejhglhkcaaGreatDoorVaE
namespace Go.Proofs.YtgdieejhglhkcaaGreatDoor.MTup
open Go.RowKit Go.Lib Go.Proofs.YtgdieejhglhkcaaGreatDoorW.PrintWords Go.Proofs.YtgdieejhglhkcaaGreatDoorW.PrintLast Go.Proofs.YtgdieejhglhkcaaGreatDoorW.PrintMore
set_option linter.unusedVariables false
set_option linter.unusedSimpArgs false
/-- A comparison that orders its keys. -/
structure Cmp {K : Type} (c : K → K → Int) : Prop where
  self : ∀ a, c a a = 0
  eq : ∀ a b, c a b = 0 → a = b
  anti : ∀ a b, c b a = - c a b
  trans : ∀ a b d, c a b < 0 → c b d < 0 → c a d < 0
section
variable {α K : Type} (c : K → K → Int) (key : α → K)
/-- Rows that rise by their keys. -/
def Up (l : List α) : Prop := l.Pairwise (fun a b => c (key a) (key b) < 0)
/-- How many are ahead of a key. -/
def cnt (s : K) (l : List α) : Nat := l.countP (fun y => decide (c (key y) s < 0))
/-- Put by its key: in place of its equal. -/
def put (x : α) : List α → List α
  | [] => [x]
  | y :: r => if c (key y) (key x) < 0 then y :: put x r else if c (key y) (key x) = 0 then x :: r else x :: y :: r
/-- The one of a key. -/
def got (s : K) (l : List α) : Option α := l.find? (fun y => decide (c (key y) s = 0))
variable {c key}
theorem Up.nil : Up c key [] := List.Pairwise.nil
theorem Up.tail {y : α} {r : List α} (h : Up c key (y :: r)) : Up c key r := (List.pairwise_cons.1 h).2
theorem Up.head {y : α} {r : List α} (h : Up c key (y :: r)) : ∀ z ∈ r, c (key y) (key z) < 0 := (List.pairwise_cons.1 h).1
theorem Up.cons {y : α} {r : List α} (h : Up c key r) (h1 : ∀ z ∈ r, c (key y) (key z) < 0) : Up c key (y :: r) := List.pairwise_cons.2 ⟨h1, h⟩
theorem cnt_zero (hc : Cmp c) {s : K} {y : α} {r : List α} (h : Up c key (y :: r)) (hy : ¬ c (key y) s < 0) : cnt c key s (y :: r) = 0 := by
  unfold cnt
  rw [List.countP_eq_zero]
  intro z hz
  simp only [decide_eq_true_eq]
  intro hlt
  rcases List.mem_cons.1 hz with rfl | hz
  · exact hy hlt
  · exact hy (hc.trans _ _ _ (h.head z hz) hlt)
theorem cnt_succ {s : K} {y : α} {r : List α} (hy : c (key y) s < 0) : cnt c key s (y :: r) = cnt c key s r + 1 := by
  unfold cnt; rw [List.countP_cons_of_pos (by simpa using hy)]
theorem cnt_le (s : K) (l : List α) : cnt c key s l ≤ l.length := List.countP_le_length
/-- Binary search's word on it: is it there? -/
theorem met_iff (hc : Cmp c) (s : K) (d : α) : ∀ l : List α, Up c key l → ((cnt c key s l < l.length ∧ c (key (l.getD (cnt c key s l) d)) s = 0) ↔ ∃ x ∈ l, key x = s)
  | [], _ => by simp
  | y :: r, h => by
    by_cases hy : c (key y) s < 0
    · rw [cnt_succ hy]
      have ih := met_iff hc s d r h.tail
      simp only [List.length_cons, List.getD_cons_succ, List.mem_cons, exists_eq_or_imp]
      rw [Nat.add_lt_add_iff_right, ih]
      constructor
      · exact fun h => Or.inr h
      · rintro (e | h)
        · rw [e, hc.self] at hy; omega
        · exact h
    · rw [cnt_zero hc h hy]
      simp only [List.length_cons, Nat.zero_lt_succ, true_and, List.getD_cons_zero, List.mem_cons, exists_eq_or_imp]
      constructor
      · exact fun h => Or.inl (hc.eq _ _ h)
      · rintro (e | ⟨x, hx, e⟩)
        · rw [e, hc.self]
        · have := h.head x hx
          rw [e] at this; exact absurd this hy
theorem put_eq (hc : Cmp c) (x d : α) : ∀ l : List α, Up c key l → put c key x l =
    l.take (cnt c key (key x) l) ++ x :: l.drop (if cnt c key (key x) l < l.length ∧ c (key (l.getD (cnt c key (key x) l) d)) (key x) = 0 then cnt c key (key x) l + 1 else cnt c key (key x) l)
  | [], _ => by simp [put, cnt]
  | y :: r, h => by
    by_cases hy : c (key y) (key x) < 0
    · rw [cnt_succ hy, put, if_pos hy, put_eq hc x d r h.tail]
      simp only [List.length_cons, List.getD_cons_succ, Nat.add_lt_add_iff_right, List.take_succ_cons, List.cons_append]
      split <;> simp
    · rw [cnt_zero hc h hy, put, if_neg hy]
      simp only [List.length_cons, Nat.zero_lt_succ, true_and, List.getD_cons_zero, List.take_zero, List.nil_append]
      split <;> simp
theorem put_mem (hc : Cmp c) (x : α) : ∀ l : List α, Up c key l → ∀ z, z ∈ put c key x l ↔ z = x ∨ (z ∈ l ∧ key z ≠ key x)
  | [], _, z => by simp [put]
  | y :: r, h, z => by
    unfold put
    split
    · rename_i hy
      have hne : key y ≠ key x := fun e => by rw [e, hc.self] at hy; omega
      rw [List.mem_cons, put_mem hc x r h.tail z]
      constructor
      · rintro (rfl | h1 | h1)
        · exact Or.inr ⟨by simp, hne⟩
        · exact Or.inl h1
        · exact Or.inr ⟨by simp [h1.1], h1.2⟩
      · rintro (h1 | ⟨h1, h2⟩)
        · exact Or.inr (Or.inl h1)
        · rcases List.mem_cons.1 h1 with rfl | h1
          · exact Or.inl rfl
          · exact Or.inr (Or.inr ⟨h1, h2⟩)
    · rename_i hy
      split
      · rename_i h0
        have e := hc.eq _ _ h0
        rw [List.mem_cons]
        constructor
        · rintro (h1 | h1)
          · exact Or.inl h1
          · refine Or.inr ⟨by simp [h1], fun e2 => ?_⟩
            have := h.head z h1
            rw [e, e2, hc.self] at this; omega
        · rintro (h1 | ⟨h1, h2⟩)
          · exact Or.inl h1
          · rcases List.mem_cons.1 h1 with rfl | h1
            · exact absurd e h2
            · exact Or.inr h1
      · rename_i h0
        rw [List.mem_cons]
        have far : ∀ u ∈ y :: r, key u ≠ key x := fun u hu e => by
          rcases List.mem_cons.1 hu with rfl | hu
          · exact h0 (by rw [e, hc.self])
          · have := h.head u hu
            rw [e] at this; exact hy this
        exact ⟨fun h1 => h1.elim Or.inl (fun h1 => Or.inr ⟨h1, far z h1⟩), fun h1 => h1.elim Or.inl (fun h1 => Or.inr h1.1)⟩
theorem Cmp.flip (hc : Cmp c) {a b : K} (h1 : ¬ c a b < 0) (h2 : ¬ c a b = 0) : c b a < 0 := by rw [hc.anti a b]; omega
theorem put_up (hc : Cmp c) (x : α) : ∀ l : List α, Up c key l → Up c key (put c key x l)
  | [], _ => by simp [put, Up]
  | y :: r, h => by
    unfold put
    split
    · rename_i hy
      refine (put_up hc x r h.tail).cons (fun z hz => ?_)
      rcases (put_mem hc x r h.tail z).1 hz with rfl | ⟨h1, _⟩
      · exact hy
      · exact h.head z h1
    · rename_i hy
      split
      · rename_i h0
        refine h.tail.cons (fun z hz => ?_)
        rw [← hc.eq _ _ h0]; exact h.head z hz
      · rename_i h0
        refine h.cons (fun z hz => ?_)
        have h1 := hc.flip hy h0
        rcases List.mem_cons.1 hz with rfl | hz
        · exact h1
        · exact hc.trans _ _ _ h1 (h.head z hz)
theorem Up.inj (hc : Cmp c) : ∀ {l : List α}, Up c key l → ∀ x ∈ l, ∀ y ∈ l, key x = key y → x = y
  | [], _, x, hx, _, _, _ => by simp at hx
  | z :: r, h, x, hx, y, hy, e => by
    rcases List.mem_cons.1 hx with e1 | h1
    · rcases List.mem_cons.1 hy with e2 | h2
      · rw [e1, e2]
      · have := h.head y h2; rw [← e1, e, hc.self] at this; omega
    · rcases List.mem_cons.1 hy with e2 | h2
      · have := h.head x h1; rw [← e2, e, hc.self] at this; omega
      · exact h.tail.inj hc x h1 y h2 e
/-- Rows that rise and have the same are the same. -/
theorem up_ext (hc : Cmp c) : ∀ {l m : List α}, Up c key l → Up c key m → (∀ x, x ∈ l ↔ x ∈ m) → l = m
  | [], [], _, _, _ => rfl
  | [], y :: r, _, _, h => by have := (h y).2 (by simp); simp at this
  | y :: r, [], _, _, h => by have := (h y).1 (by simp); simp at this
  | x :: l, y :: m, hl, hm, h => by
    have e : x = y := by
      rcases List.mem_cons.1 ((h x).1 (by simp)) with e | h1
      · exact e
      · rcases List.mem_cons.1 ((h y).2 (by simp)) with e | h2
        · exact e.symm
        · have a := hl.head y h2
          have b := hm.head x h1
          have := hc.trans _ _ _ a b
          rw [hc.self] at this; omega
    subst e
    rw [up_ext hc hl.tail hm.tail (fun z => ?_)]
    have nx : ∀ {l : List α}, Up c key (x :: l) → x ∉ l := fun hu hx => by have := hu.head x hx; rw [hc.self] at this; omega
    constructor
    · intro hz
      rcases List.mem_cons.1 ((h z).1 (by simp [hz])) with rfl | h1
      · exact absurd hz (nx hl)
      · exact h1
    · intro hz
      rcases List.mem_cons.1 ((h z).2 (by simp [hz])) with rfl | h1
      · exact absurd hz (nx hm)
      · exact h1
/-- What is put one by one, in any order, rises and has just these. -/
theorem puts_up (hc : Cmp c) : ∀ (xs l : List α), Up c key l → Up c key (xs.foldl (fun a x => put c key x a) l)
  | [], _, h => h
  | x :: xs, l, h => puts_up hc xs _ (put_up hc x l h)
theorem puts_mem (hc : Cmp c) : ∀ (xs l : List α), Up c key l → (∀ x ∈ xs, ∀ y ∈ xs, key x = key y → x = y) → (∀ x ∈ xs, ∀ y ∈ l, key x = key y → x = y) →
    ∀ z, z ∈ xs.foldl (fun a x => put c key x a) l ↔ z ∈ xs ∨ z ∈ l
  | [], l, _, _, _, z => by simp
  | x :: xs, l, h, hx, hl, z => by
    rw [List.foldl_cons, puts_mem hc xs _ (put_up hc x l h) (fun a ha b hb e => hx a (by simp [ha]) b (by simp [hb]) e) (fun a ha b hb e => ?_) z, put_mem hc x l h]
    · simp only [List.mem_cons]
      constructor
      · rintro (h1 | h1 | h1)
        · exact Or.inl (Or.inr h1)
        · exact Or.inl (Or.inl h1)
        · exact Or.inr h1.1
      · rintro ((h1 | h1) | h1)
        · exact Or.inr (Or.inl h1)
        · exact Or.inl h1
        · by_cases e : key z = key x
          · exact Or.inr (Or.inl (hl x (by simp) z h1 e.symm).symm)
          · exact Or.inr (Or.inr ⟨h1, e⟩)
    · rcases (put_mem hc x l h b).1 hb with rfl | ⟨h1, _⟩
      · exact hx a (by simp [ha]) b (by simp) e
      · exact hl a (by simp [ha]) b h1 e
theorem puts_all (hc : Cmp c) {xs l : List α} (h : Up c key l) (hp : ∀ z, z ∈ xs ↔ z ∈ l) : xs.foldl (fun a x => put c key x a) [] = l := by
  refine up_ext hc (puts_up hc xs [] Up.nil) h (fun z => ?_)
  rw [puts_mem hc xs [] Up.nil (fun a ha b hb e => h.inj hc a ((hp a).1 ha) b ((hp b).1 hb) e) (fun a _ b hb => by simp at hb) z]
  simp [hp]
theorem got_some (hc : Cmp c) {s : K} {l : List α} {x : α} (h : Up c key l) (hx : x ∈ l) (e : key x = s) : got c key s l = some x := by
  unfold got
  cases hf : l.find? (fun y => decide (c (key y) s = 0)) with
  | none =>
    have := List.find?_eq_none.1 hf x hx
    simp [e, hc.self] at this
  | some y =>
    have h1 := List.find?_some hf
    have h2 := List.mem_of_find?_eq_some hf
    simp only [decide_eq_true_eq] at h1
    rw [h.inj hc y h2 x hx ((hc.eq _ _ h1).trans e.symm)]
theorem got_none (hc : Cmp c) {s : K} {l : List α} : got c key s l = none ↔ ∀ x ∈ l, key x ≠ s := by
  unfold got
  rw [List.find?_eq_none]
  constructor
  · intro h x hx e; have := h x hx; simp [e, hc.self] at this
  · intro h x hx; simp only [decide_eq_true_eq]; exact fun e => h x hx (hc.eq _ _ e)
theorem put_len (hc : Cmp c) (x : α) : ∀ l : List α, Up c key l → (put c key x l).length = l.length + (if (got c key (key x) l).isSome = true then 0 else 1)
  | [], _ => by simp [put, got]
  | y :: r, h => by
    unfold put
    split
    · rename_i hy
      have hne : ¬ c (key y) (key x) = 0 := by omega
      have : got c key (key x) (y :: r) = got c key (key x) r := by simp [got, hne]
      rw [List.length_cons, put_len hc x r h.tail, this, List.length_cons]; omega
    · rename_i hy
      split
      · rename_i h0
        have : got c key (key x) (y :: r) = some y := by simp [got, h0]
        rw [this]; simp
      · rename_i h0
        have far : ∀ u ∈ y :: r, key u ≠ key x := fun u hu e => by
          rcases List.mem_cons.1 hu with rfl | hu
          · exact h0 (by rw [e, hc.self])
          · have := h.head u hu
            rw [e] at this; exact hy this
        rw [(got_none hc).2 far]; simp
end
theorem split_sep {s : UInt8} : ∀ {a b x y : List UInt8}, s ∉ a → s ∉ b → a ++ s :: x = b ++ s :: y → a = b ∧ x = y
  | [], [], _, _, _, _, h => by simpa using h
  | [], c :: b, _, _, _, hb, h => by
    simp at h hb; exact absurd h.1 hb.1
  | c :: a, [], _, _, ha, _, h => by
    simp at h ha; exact absurd h.1.symm ha.1
  | c :: a, d :: b, x, y, ha, hb, h => by
    simp at h ha hb
    obtain ⟨e1, e2⟩ := split_sep (s := s) ha.2 hb.2 h.2
    exact ⟨by rw [h.1, e1], e2⟩
theorem join_inj {s : UInt8} : ∀ (xs ys : List (List UInt8)), (∀ x ∈ xs, s ∉ x ∧ x ≠ []) → (∀ x ∈ ys, s ∉ x ∧ x ≠ []) → Lib.join xs [s] = Lib.join ys [s] → xs = ys
  | [], [], _, _, _ => rfl
  | [], [y], _, hy, h => by
    rw [Lib.join_nil, Lib.join_one] at h; exact absurd h.symm (hy y (by simp)).2
  | [], y :: z :: r, _, hy, h => by
    rw [Lib.join_nil, Lib.join_cons] at h; exact absurd (List.append_eq_nil_iff.1 h.symm).1 (hy y (by simp)).2
  | [x], [], hx, _, h => by
    rw [Lib.join_nil, Lib.join_one] at h; exact absurd h (hx x (by simp)).2
  | x :: z :: r, [], hx, _, h => by
    rw [Lib.join_nil, Lib.join_cons] at h; exact absurd (List.append_eq_nil_iff.1 h).1 (hx x (by simp)).2
  | [x], [y], _, _, h => by rw [Lib.join_one, Lib.join_one] at h; rw [h]
  | [x], y :: z :: r, hx, _, h => by
    rw [Lib.join_one, Lib.join_cons] at h
    have := (hx x (by simp)).1
    rw [h] at this; simp [Lib.joinTail] at this
  | x :: z :: r, [y], _, hy, h => by
    rw [Lib.join_one, Lib.join_cons] at h
    have := (hy y (by simp)).1
    rw [← h] at this; simp [Lib.joinTail] at this
  | x :: x1 :: r, y :: y1 :: q, hx, hy, h => by
    have e : ∀ (a b : List UInt8) (t : List (List UInt8)), Lib.join (a :: b :: t) [s] = a ++ s :: Lib.join (b :: t) [s] := fun a b t => by
      rw [Lib.join_cons, Lib.join_cons]; simp [Lib.joinTail]
    rw [e, e] at h
    obtain ⟨h1, h2⟩ := split_sep (hx x (by simp)).1 (hy y (by simp)).1 h
    rw [h1, join_inj (x1 :: r) (y1 :: q) (fun u hu => hx u (by simp [hu])) (fun u hu => hy u (by simp [hu])) h2]
/-! ### tuple.Put -/
abbrev nm25 (x : S25) : ByteArray := x.f0
theorem cmpB_cmp : Cmp cmpB := ⟨cmpB_self, fun _ _ => cmpB_eq, cmpB_anti, fun _ _ _ => cmpB_trans⟩
/-- Does a row rise by its names? -/
def upB (l : List S25) : Bool := decide (l.Pairwise (fun a b => cmpB (nm25 a) (nm25 b) < 0))
theorem upB_iff {l : List S25} : upB l = true ↔ Up cmpB nm25 l := by unfold upB Up; simp
def putA (l : List S25) (x : S25) : List S25 := put cmpB nm25 x l
def tuple_Put.f (l : List S25) (a1 : ByteArray) (v0 : Bool) (v1 : Int) (v2 : ByteArray) : Option (List S25) :=
  if l.length ≤ 1000 then (if upB l = true then some (putA l ⟨a1, ⟨v0, v1, v2⟩⟩) else none) else none
theorem up_mono {l : List S25} (h : Up cmpB nm25 l) (s : ByteArray) : ∀ a b, a ≤ b → b < l.length → cmpB (l.getD b z25).f0 s < 0 → cmpB (l.getD a z25).f0 s < 0 := by
  intro a b hab hb hs
  rcases Nat.lt_or_ge a b with h1 | h1
  · have := List.pairwise_iff_getElem.1 h a b (by omega) hb h1
    rw [List.getD_eq_getElem?_getD, List.getElem?_eq_getElem (show a < l.length by omega)]
    rw [List.getD_eq_getElem?_getD, List.getElem?_eq_getElem hb] at hs
    exact cmpB_trans this hs
  · obtain rfl : a = b := by omega
    exact hs
def pcnt (l : List S25) (s : ByteArray) : Nat := cnt cmpB nm25 s l
def pmet (l : List S25) (s : ByteArray) : Bool := decide (pcnt l s < l.length) && decide (cmpB (l.getD (pcnt l s) z25).f0 s = 0)
theorem pcnt_le (l : List S25) (s : ByteArray) : pcnt l s ≤ l.length := cnt_le s l
theorem bs_put (A : Option Addr) (c n : Nat) (l : List S25) (hn : l.length = n) (s : ByteArray) (i : Nat) (b : Bool) (w : World) (hC : Kd.C k25 w A l.length l) (hsz : l.length ≤ 1000) (hR : Up cmpB nm25 l) (hi : pcnt l s = i) (hm : pmet l s = b) :
    Calls Tryz.prog 25 #[.slice A n c, .string s, .func (.func 26) #[] #[]] w fun e w' => e = .returned (.tuple #[.int .i64 i, .bool b]) ∧ Below w.heap.size w w' := by
  subst hn
  subst hi
  subst hm
  exact bs25 (.string s) (fun x => cmpB x.f0 s) 26 #[] A c l w (fun _ _ => enters_of Tryz.func26 (by kernel_rfl) rfl _ _) (fun x W => cmp25.calls x s W) hC (by omega) (up_mono hR s)
theorem put_true {l : List S25} (hR : Up cmpB nm25 l) (x : S25) (h : pmet l x.f0 = true) : putA l x = l.take (pcnt l x.f0) ++ x :: l.drop (pcnt l x.f0 + 1) := by
  unfold putA
  rw [put_eq cmpB_cmp x z25 l hR]
  unfold pmet pcnt at h
  simp only [Bool.and_eq_true, decide_eq_true_eq] at h
  rw [if_pos h]
  rfl
theorem put_false {l : List S25} (hR : Up cmpB nm25 l) (x : S25) (h : pmet l x.f0 = false) : putA l x = l.take (pcnt l x.f0) ++ x :: l.drop (pcnt l x.f0) := by
  unfold putA
  rw [put_eq cmpB_cmp x z25 l hR]
  unfold pmet pcnt at h
  rw [if_neg (fun h2 => by rw [decide_eq_true h2.1, decide_eq_true h2.2] at h; cases h)]
  rfl
theorem put_len_le (l : List S25) (x : S25) : ∀ l : List S25, (put cmpB nm25 x l).length ≤ l.length + 1
  | [] => by simp [put]
  | y :: r => by
    unfold put
    split
    · have := put_len_le l x r; simp; omega
    · split <;> simp
/-- Three slices side by side in a block. -/
theorem cc_three {W : World} {g : Nat} {A1 A2 A3 : Option Addr} {n1 n2 n3 c1 c2 c3 : Nat} {l1 l2 l3 : List S25} (h : W.heap[g]? = some (.cells #[.slice A1 n1 c1, .slice A2 n2 c2, .slice A3 n3 c3] 26 (0, 0)))
    (h1 : Kd.C k25 W A1 l1.length l1) (e1 : l1.length = n1) (d1 : n1 ≤ c1) (h2 : Kd.C k25 W A2 l2.length l2) (e2 : l2.length = n2) (d2 : n2 ≤ c2) (h3 : Kd.C k25 W A3 l3.length l3) (e3 : l3.length = n3) (d3 : n3 ≤ c3) :
    Kd.C (Kd.slice 25 k25) W (some ⟨g, 0, none⟩) [l1, l2, l3].length [l1, l2, l3] := by
  subst e1 e2 e3
  refine ⟨rfl, by simp, fun _ => ⟨⟨g, 0, none⟩, rfl, fun j p hj => ?_⟩⟩
  match j, hj with
  | 0, hj =>
    simp at hj; subst hj
    exact ⟨[.slice A1 l1.length c1], rfl, ⟨A1, c1, rfl, d1, h1⟩, fun i u hu => by
      match i, hu with
      | 0, hu => simp at hu; subst hu; exact (Val.cell_blk h 0).trans rfl⟩
  | 1, hj =>
    simp at hj; subst hj
    exact ⟨[.slice A2 l2.length c2], rfl, ⟨A2, c2, rfl, d2, h2⟩, fun i u hu => by
      match i, hu with
      | 0, hu => simp at hu; subst hu; exact (Val.cell_blk h 1).trans rfl⟩
  | 2, hj =>
    simp at hj; subst hj
    exact ⟨[.slice A3 l3.length c3], rfl, ⟨A3, c3, rfl, d3, h3⟩, fun i u hu => by
      match i, hu with
      | 0, hu => simp at hu; subst hu; exact (Val.cell_blk h 2).trans rfl⟩
theorem one_25 {W : World} {g : Nat} (x : S25) (h : W.heap[g]? = some (.cells #[.string x.f0, .bool x.f1.f0, .int .i64 x.f1.f1, .string x.f1.f2] 25 (0, 0))) : Kd.C k25 W (some ⟨g, 0, none⟩) 1 [x] := by
  refine ⟨rfl, by omega, fun _ => ⟨⟨g, 0, none⟩, rfl, fun j p hj => ?_⟩⟩
  match j, hj with
  | 0, hj =>
    simp at hj; subst hj
    exact ⟨_, rfl, k25_mk W x, fun i u hu => by
      match i, hu with
      | 0, hu => simp at hu; subst hu; exact (Val.cell_blk h 0).trans rfl
      | 1, hu => simp at hu; subst hu; exact (Val.cell_blk h 1).trans rfl
      | 2, hu => simp at hu; subst hu; exact (Val.cell_blk h 2).trans rfl
      | 3, hu => simp at hu; subst hu; exact (Val.cell_blk h 3).trans rfl⟩
set_option maxRecDepth 1000000 in
set_option maxHeartbeats 3200000 in
theorem tuple_Put.true_ (A : Option Addr) (c n i : Nat) (l : List S25) (a1 : ByteArray) (v0 : Bool) (v1 : Int) (v2 : ByteArray) (w : World) (hr : Kd.C k25 w A l.length l) (hc : n ≤ c) (hln : l.length = n) (hl : n ≤ 1000) (hR : Up cmpB nm25 l) (hi : pcnt l a1 = i) (hin : i ≤ n) (hin2 : i < n) (hm : pmet l a1 = true) :
    Calls Tryz.prog 10 #[.slice A n c, .string a1, .agg #[.bool v0, .int .i64 v1, .string v2]] w fun e w' => ∃ v, e = .returned v ∧ Kd.R k25 25 w' w.heap.size (fun _ => True) v (l.take i ++ (⟨a1, ⟨v0, v1, v2⟩⟩ : S25) :: l.drop (i + 1)) ∧ Below w.heap.size w w' := by
  have hu25 := Tryz.underlying25
  have hu23 := Tryz.underlying23
  have hu26 := Tryz.underlying26
  obtain ⟨i0, hi0, hz0, hzs, hzb⟩ := info_parts info25
  have hto := cut_to (P := Tryz.prog) 26 25 .i64 Tryz.underlying26 hi0 A n c (i : Int) (by omega) (by omega) hc
  have hfr := cut_from (P := Tryz.prog) 26 25 .i64 Tryz.underlying26 hi0 4 hzs A n c ((i + 1 : Nat) : Int) (by omega) (by omega)
  rw [Int.toNat_natCast] at hto hfr
  have hfr : ∀ W, (Instr.slice 26 (.slice A n c) (some (.int .i64 ((i : Int) + 1))) none none).run Tryz.prog W = .ok (.slice (if c = i + 1 then A else A.map (·.add ((i + 1) * 4))) (n - (i + 1)) (c - (i + 1))) W := fun W => by have h := hfr W; rw [show (((i + 1 : Nat)) : Int) = (i : Int) + 1 from by omega] at h; exact h
  generalize hA2 : (if c = i + 1 then A else A.map (·.add ((i + 1) * 4))) = A2 at hfr
  have HBS := Aside0.mk (fun W (hb : Below w.heap.size w W) => bs_put A c n l hln a1 i true W (Kd.C_below hr hb) (by omega) hR hi hm)
  have HR := Aside0.mk hr
  have HM := Aside0.mk hm
  have HL := Aside0.mk hln
  have HA := Aside0.mk hA2
  have HI := Aside0.mk hi
  have HU := Aside0.mk hR
  clear hr hm hln hA2 hi hR hi0 hz0 hzs hzb
  have hwr : IntKind.i64.wrap ((i : Int) + 1) = (i : Int) + 1 := by rw [IntKind.wrap_i64]; omega
  go_enter Tryz.func10, Tryz.ntmps10
  go_upto_region 4 with (go_at_call 25; refine (HBS.out _ (below_alloc (Below.refl _ _) _)).mono ?_; rintro e w1 ⟨rfl, hb1⟩; have kb : w1.heap[w.heap.size]? = some (.cells #[.bool v0, .int .i64 v1, .string v2] 23 (0, 0)) := (hb1.block _ (by simp)).trans (heap_alloc_new w _); have x0 : w1.cell? ⟨w.heap.size, 0, none⟩ = some (.bool v0) := (Val.cell_blk kb 0).trans rfl; have x1 : w1.cell? ⟨w.heap.size, 1, none⟩ = some (.int .i64 v1) := (Val.cell_blk kb 1).trans rfl; have x2 : w1.cell? ⟨w.heap.size, 2, none⟩ = some (.string v2) := (Val.cell_blk kb 2).trans rfl)
  obtain ⟨W, hW⟩ : ∃ W, W = w1.alloc (.cells #[.string a1, .bool v0, .int .i64 v1, .string v2] 25) := ⟨_, rfl⟩
  rw [← hW]
  have hb1' : Below w.heap.size w w1 := below_step (below_alloc (Below.refl _ _) _) hb1
  have hW0 : Below w.heap.size w W := by rw [hW]; exact below_alloc hb1' _
  have hnew : W.heap[w1.heap.size]? = some (.cells #[.string a1, .bool v0, .int .i64 v1, .string v2] 25 (0, 0)) := by rw [hW]; exact heap_alloc_new w1 _
  clear hW
  generalize w1.heap.size = g at hnew ⊢
  have hS : ∀ w', Below W.heap.size W w' → w'.cell? ⟨g, 0, none⟩ = some (.string a1) ∧ w'.cell? ⟨g, 1, none⟩ = some (.bool v0) ∧ w'.cell? ⟨g, 2, none⟩ = some (.int .i64 v1) ∧ w'.cell? ⟨g, 3, none⟩ = some (.string v2) := fun w' hw => ⟨(Val.cell_blk ((hw.block _ (Val.lt_blk hnew)).trans hnew) 0).trans rfl, (Val.cell_blk ((hw.block _ (Val.lt_blk hnew)).trans hnew) 1).trans rfl, (Val.cell_blk ((hw.block _ (Val.lt_blk hnew)).trans hnew) 2).trans rfl, (Val.cell_blk ((hw.block _ (Val.lt_blk hnew)).trans hnew) 3).trans rfl⟩
  refine start_ (n := 12) (S := fun w' => w'.cell? ⟨g, 0, none⟩ = some (.string a1) ∧ w'.cell? ⟨g, 1, none⟩ = some (.bool v0) ∧ w'.cell? ⟨g, 2, none⟩ = some (.int .i64 v1) ∧ w'.cell? ⟨g, 3, none⟩ = some (.string v2)) (ds := []) #[false, false, false, false, false, false, false, false, false, false, false, false] (by kernel_rfl) rfl rfl (hS _ (below_drew1 (Below.refl _ _))) (fun hHeld => ?_)
  have hb0 : Below W.heap.size W W.drew := below_drew1 (Below.refl _ _)
  generalize W.drew = V0 at hb0 hHeld ⊢
  refine pure_ (i := 0) (N := (some 20)) (v := ?_) (a' := ?_) #[true, false, false, false, false, false, false, false, false, false, false, false] rfl rfl (by kernel_rfl) (fun _ _ _ h => h) (Or.inl ⟨by rfl, ?_⟩) ?_ ?_
  rotate_left
  · intro w'
    go_simp
    with_reducible rfl
  rotate_left
  · simp only [Act.put, List.setIfInBounds_toArray, List.set_cons_zero, List.set_cons_succ, i64_w, i32_w]
    rfl
  refine pure_ (i := 1) (N := (some 21)) (v := ?_) (a' := ?_) #[true, true, false, false, false, false, false, false, false, false, false, false] rfl rfl (by kernel_rfl) (fun _ _ _ h => h) (Or.inl ⟨by rfl, ?_⟩) ?_ ?_
  rotate_left
  · intro w'
    go_simp
    with_reducible rfl
  rotate_left
  · simp only [Act.put, List.setIfInBounds_toArray, List.set_cons_zero, List.set_cons_succ, i64_w, i32_w]
    rfl
  refine pure_ (i := 2) (N := (some 22)) (v := ?_) (a' := ?_) #[true, true, true, false, false, false, false, false, false, false, false, false] rfl rfl (by kernel_rfl) (fun _ _ _ h => h) (Or.inl ⟨by rfl, ?_⟩) ?_ ?_
  rotate_left
  · intro w'
    go_simp
    with_reducible rfl
  rotate_left
  · simp only [Act.put, List.setIfInBounds_toArray, List.set_cons_zero, List.set_cons_succ, i64_w, i32_w]
    rfl
  refine take_ (i := 3) (N := (some 23)) (v := ?_) (a' := ?_) #[true, true, true, true, false, false, false, false, false, false, false, false] rfl rfl (by kernel_rfl) (fun _ _ _ h => h) (Or.inl ⟨by rfl, ?_⟩) hHeld ?_ ?_
  rotate_left
  · rintro w' ⟨s0, s1, s2, s3⟩
    go_simp
    with_reducible rfl
  rotate_left
  · simp only [Act.put, List.setIfInBounds_toArray, List.set_cons_zero, List.set_cons_succ, i64_w, i32_w]
    rfl
  refine pure_ (i := 5) (N := (some 25)) (v := ?_) (a' := ?_) #[true, true, true, true, false, true, false, false, false, false, false, false] rfl rfl (by kernel_rfl) (fun _ _ _ h => h) (Or.inl ⟨by rfl, ?_⟩) ?_ ?_
  rotate_left
  · intro w'
    go_simp
    with_reducible rfl
  rotate_left
  · simp only [Act.put, List.setIfInBounds_toArray, List.set_cons_zero, List.set_cons_succ, i64_w, i32_w]
    rfl
  refine pure_ (i := 6) (N := (some 26)) (v := ?_) (a' := ?_) #[true, true, true, true, false, true, true, false, false, false, false, false] rfl rfl (by kernel_rfl) (fun _ _ _ h => h) (Or.inl ⟨by rfl, ?_⟩) ?_ ?_
  rotate_left
  · intro w'
    go_simp
    with_reducible rfl
  rotate_left
  · simp only [Act.put, List.setIfInBounds_toArray, List.set_cons_zero, List.set_cons_succ, i64_w, i32_w]
    rfl
  refine pure_ (i := 7) (N := (some 27)) (v := ?_) (a' := ?_) #[true, true, true, true, false, true, true, true, false, false, false, false] rfl rfl (by kernel_rfl) (fun _ _ _ h => h) (Or.inl ⟨by rfl, ?_⟩) ?_ ?_
  rotate_left
  · intro w'
    go_simp
    with_reducible rfl
  rotate_left
  · simp only [Act.put, List.setIfInBounds_toArray, List.set_cons_zero, List.set_cons_succ, i64_w, i32_w]
    rfl
  refine pure_ (i := 8) (N := (some 28)) (v := ?_) (a' := ?_) #[true, true, true, true, false, true, true, true, true, false, false, false] rfl rfl (by kernel_rfl) (fun _ _ _ h => h) (Or.inl ⟨by rfl, ?_⟩) ?_ ?_
  rotate_left
  · intro w'
    go_simp
    with_reducible rfl
  rotate_left
  · simp only [Act.put, List.setIfInBounds_toArray, List.set_cons_zero, List.set_cons_succ, i64_w, i32_w]
    rfl
  refine one_ (i := 4) (N := (some 24)) #[true, true, true, true, true, true, true, true, true, false, false, false] rfl rfl (by kernel_rfl) (by decide) (fun K hK => ?_)
  refine value_ (w1 := V0.alloc (.cells #[.string a1, .bool v0, .int .i64 v1, .string v2] 25)) (v := .slice (some ⟨V0.heap.size, 0, none⟩) 1 1) (by rfl) rfl (by go_simp) ?_
  have kx : (V0.alloc (.cells #[.string a1, .bool v0, .int .i64 v1, .string v2] 25)).heap[V0.heap.size]? = some (.cells #[.string a1, .bool v0, .int .i64 v1, .string v2] 25 (0, 0)) := heap_alloc_new V0 _
  have hb1_ : Below W.heap.size W (V0.alloc (.cells #[.string a1, .bool v0, .int .i64 v1, .string v2] 25)) := below_alloc hb0 _
  refine hK.out _ _ (hS _ hb1_) (fun hHeld => ?_)
  clear hK K
  generalize V0.alloc (.cells #[.string a1, .bool v0, .int .i64 v1, .string v2] 25) = V1 at kx hb1_ hHeld ⊢
  generalize V0.heap.size = g1 at kx ⊢
  refine norm_ (a' := ?_) ?_ ?_
  rotate_left
  · show Act.put _ (some 24) _ = _
    simp only [Act.put, List.setIfInBounds_toArray, List.set_cons_zero, List.set_cons_succ, i64_w, i32_w]
    rfl
  refine one_ (i := 9) (N := (some 29)) #[true, true, true, true, true, true, true, true, true, true, false, false] rfl rfl (by kernel_rfl) (by decide) (fun K hK => ?_)
  refine value_ (w1 := V1.alloc (.cells #[.slice A i c, .slice (some ⟨g1, 0, none⟩) 1 1, .slice A2 (n - (i + 1)) (c - (i + 1))] 26)) (v := .slice (some ⟨V1.heap.size, 0, none⟩) 3 3) (by rfl) rfl (by go_simp) ?_
  have ky : (V1.alloc (.cells #[.slice A i c, .slice (some ⟨g1, 0, none⟩) 1 1, .slice A2 (n - (i + 1)) (c - (i + 1))] 26)).heap[V1.heap.size]? = some (.cells #[.slice A i c, .slice (some ⟨g1, 0, none⟩) 1 1, .slice A2 (n - (i + 1)) (c - (i + 1))] 26 (0, 0)) := heap_alloc_new V1 _
  have kx2 : (V1.alloc (.cells #[.slice A i c, .slice (some ⟨g1, 0, none⟩) 1 1, .slice A2 (n - (i + 1)) (c - (i + 1))] 26)).heap[g1]? = some (.cells #[.string a1, .bool v0, .int .i64 v1, .string v2] 25 (0, 0)) := (Val.old_alloc (Val.lt_blk kx)).trans kx
  have hb2_ : Below W.heap.size W (V1.alloc (.cells #[.slice A i c, .slice (some ⟨g1, 0, none⟩) 1 1, .slice A2 (n - (i + 1)) (c - (i + 1))] 26)) := below_alloc hb1_ _
  refine hK.out _ _ (hS _ hb2_) (fun hHeld => ?_)
  clear hK K
  generalize V1.alloc (.cells #[.slice A i c, .slice (some ⟨g1, 0, none⟩) 1 1, .slice A2 (n - (i + 1)) (c - (i + 1))] 26) = V2 at ky kx2 hb2_ hHeld ⊢
  generalize V1.heap.size = g2 at ky ⊢
  refine norm_ (a' := ?_) ?_ ?_
  rotate_left
  · show Act.put _ (some 29) _ = _
    simp only [Act.put, List.setIfInBounds_toArray, List.set_cons_zero, List.set_cons_succ, i64_w, i32_w]
    rfl
  refine one_ (i := 10) (N := (some 30)) #[true, true, true, true, true, true, true, true, true, true, true, false] rfl rfl (by kernel_rfl) (by decide) (fun K hK => ?_)
  refine goes_ Tryz.func28 (by kernel_rfl) rfl #[.slice (some ⟨g2, 0, none⟩) 3 3] (by rfl) rfl rfl (by (try simp only [List.map_toArray, List.map_cons, List.map_nil]); first | done | rfl) ?_
  have HX2 := Kd.C_below HR.out (below_then hW0 hW0.size hb2_)
  have hdl : (l.drop (i + 1)).length = n - (i + 1) := by rw [List.length_drop, HL.out]
  have htl : (l.take i).length = i := by rw [List.length_take, HL.out]; omega
  have hlc : l.length ≤ c := by have := HL.out; omega
  have hcd := Kd.C_drop HX2 (m := i + 1) (c := c) (by have := HL.out; omega) hlc
  rw [show k25.sz = 4 from rfl, HA.out] at hcd
  have H3 := cc_three ky (l1 := l.take i) (l2 := [(⟨a1, ⟨v0, v1, v2⟩⟩ : S25)]) (l3 := l.drop (i + 1)) (Kd.C_take HX2 (by have := HL.out; omega)) htl (by omega) (one_25 ⟨a1, ⟨v0, v1, v2⟩⟩ kx2) rfl (Nat.le_refl _) hcd hdl (by omega)
  refine (slices_Concat.calls _ 3 _ V2 H3 (by simp) (by simp [hdl]; omega)).mono ?_
  rintro e V3 ⟨v3, rfl, hR3, hb3⟩
  refine ⟨_, rfl, ?_⟩
  have hb3_ : Below W.heap.size W V3 := below_step hb2_ hb3
  refine hK.out _ _ (hS _ hb3_) (fun hHeld => ?_)
  clear hK K
  refine norm_ (a' := ?_) ?_ ?_
  rotate_left
  · show Act.put _ (some 30) _ = _
    simp only [Act.put, List.setIfInBounds_toArray, List.set_cons_zero, List.set_cons_succ, i64_w, i32_w]
    rfl
  refine pure_ (i := 11) (N := (some 6)) (v := ?_) (a' := ?_) #[true, true, true, true, true, true, true, true, true, true, true, true] rfl rfl (by kernel_rfl) (fun _ _ _ h => h) (Or.inl ⟨by rfl, ?_⟩) ?_ ?_
  rotate_left
  · intro w'
    go_simp
    with_reducible rfl
  rotate_left
  · simp only [Act.put, List.setIfInBounds_toArray, List.set_cons_zero, List.set_cons_succ, i64_w, i32_w]
    rfl
  refine done_ (by kernel_rfl) ?_
  have HF := Aside0.mk (below_then hW0 hW0.size hb3_)
  have HV := Aside0.mk (Kd.R_lower hR3 (Nat.le_trans hW0.size hb2_.size))
  clear hR3
  go_wp2
  go_ret
  refine ⟨_, rfl, ?_, HF.out⟩
  have := HV.out
  simpa using this
set_option maxRecDepth 1000000 in
set_option maxHeartbeats 3200000 in
theorem tuple_Put.false_ (A : Option Addr) (c n i : Nat) (l : List S25) (a1 : ByteArray) (v0 : Bool) (v1 : Int) (v2 : ByteArray) (w : World) (hr : Kd.C k25 w A l.length l) (hc : n ≤ c) (hln : l.length = n) (hl : n ≤ 1000) (hR : Up cmpB nm25 l) (hi : pcnt l a1 = i) (hin : i ≤ n) (hm : pmet l a1 = false) :
    Calls Tryz.prog 10 #[.slice A n c, .string a1, .agg #[.bool v0, .int .i64 v1, .string v2]] w fun e w' => ∃ v, e = .returned v ∧ Kd.R k25 25 w' w.heap.size (fun _ => True) v (l.take i ++ (⟨a1, ⟨v0, v1, v2⟩⟩ : S25) :: l.drop (i)) ∧ Below w.heap.size w w' := by
  have hu25 := Tryz.underlying25
  have hu23 := Tryz.underlying23
  have hu26 := Tryz.underlying26
  obtain ⟨i0, hi0, hz0, hzs, hzb⟩ := info_parts info25
  have hto := cut_to (P := Tryz.prog) 26 25 .i64 Tryz.underlying26 hi0 A n c (i : Int) (by omega) (by omega) hc
  have hfr := cut_from (P := Tryz.prog) 26 25 .i64 Tryz.underlying26 hi0 4 hzs A n c ((i : Nat) : Int) (by omega) (by omega)
  rw [Int.toNat_natCast] at hto hfr
  skip
  generalize hA2 : (if c = i then A else A.map (·.add ((i) * 4))) = A2 at hfr
  have HBS := Aside0.mk (fun W (hb : Below w.heap.size w W) => bs_put A c n l hln a1 i false W (Kd.C_below hr hb) (by omega) hR hi hm)
  have HR := Aside0.mk hr
  have HM := Aside0.mk hm
  have HL := Aside0.mk hln
  have HA := Aside0.mk hA2
  have HI := Aside0.mk hi
  have HU := Aside0.mk hR
  clear hr hm hln hA2 hi hR hi0 hz0 hzs hzb
  skip
  go_enter Tryz.func10, Tryz.ntmps10
  go_upto_region 5 with (go_at_call 25; refine (HBS.out _ (below_alloc (Below.refl _ _) _)).mono ?_; rintro e w1 ⟨rfl, hb1⟩; have kb : w1.heap[w.heap.size]? = some (.cells #[.bool v0, .int .i64 v1, .string v2] 23 (0, 0)) := (hb1.block _ (by simp)).trans (heap_alloc_new w _); have x0 : w1.cell? ⟨w.heap.size, 0, none⟩ = some (.bool v0) := (Val.cell_blk kb 0).trans rfl; have x1 : w1.cell? ⟨w.heap.size, 1, none⟩ = some (.int .i64 v1) := (Val.cell_blk kb 1).trans rfl; have x2 : w1.cell? ⟨w.heap.size, 2, none⟩ = some (.string v2) := (Val.cell_blk kb 2).trans rfl)
  obtain ⟨W, hW⟩ : ∃ W, W = w1.alloc (.cells #[.string a1, .bool v0, .int .i64 v1, .string v2] 25) := ⟨_, rfl⟩
  rw [← hW]
  have hb1' : Below w.heap.size w w1 := below_step (below_alloc (Below.refl _ _) _) hb1
  have hW0 : Below w.heap.size w W := by rw [hW]; exact below_alloc hb1' _
  have hnew : W.heap[w1.heap.size]? = some (.cells #[.string a1, .bool v0, .int .i64 v1, .string v2] 25 (0, 0)) := by rw [hW]; exact heap_alloc_new w1 _
  clear hW
  generalize w1.heap.size = g at hnew ⊢
  have hS : ∀ w', Below W.heap.size W w' → w'.cell? ⟨g, 0, none⟩ = some (.string a1) ∧ w'.cell? ⟨g, 1, none⟩ = some (.bool v0) ∧ w'.cell? ⟨g, 2, none⟩ = some (.int .i64 v1) ∧ w'.cell? ⟨g, 3, none⟩ = some (.string v2) := fun w' hw => ⟨(Val.cell_blk ((hw.block _ (Val.lt_blk hnew)).trans hnew) 0).trans rfl, (Val.cell_blk ((hw.block _ (Val.lt_blk hnew)).trans hnew) 1).trans rfl, (Val.cell_blk ((hw.block _ (Val.lt_blk hnew)).trans hnew) 2).trans rfl, (Val.cell_blk ((hw.block _ (Val.lt_blk hnew)).trans hnew) 3).trans rfl⟩
  refine start_ (n := 11) (S := fun w' => w'.cell? ⟨g, 0, none⟩ = some (.string a1) ∧ w'.cell? ⟨g, 1, none⟩ = some (.bool v0) ∧ w'.cell? ⟨g, 2, none⟩ = some (.int .i64 v1) ∧ w'.cell? ⟨g, 3, none⟩ = some (.string v2)) (ds := []) #[false, false, false, false, false, false, false, false, false, false, false] (by kernel_rfl) rfl rfl (hS _ (below_drew1 (Below.refl _ _))) (fun hHeld => ?_)
  have hb0 : Below W.heap.size W W.drew := below_drew1 (Below.refl _ _)
  generalize W.drew = V0 at hb0 hHeld ⊢
  refine pure_ (i := 0) (N := (some 31)) (v := ?_) (a' := ?_) #[true, false, false, false, false, false, false, false, false, false, false] rfl rfl (by kernel_rfl) (fun _ _ _ h => h) (Or.inl ⟨by rfl, ?_⟩) ?_ ?_
  rotate_left
  · intro w'
    go_simp
    with_reducible rfl
  rotate_left
  · simp only [Act.put, List.setIfInBounds_toArray, List.set_cons_zero, List.set_cons_succ, i64_w, i32_w]
    rfl
  refine pure_ (i := 1) (N := (some 32)) (v := ?_) (a' := ?_) #[true, true, false, false, false, false, false, false, false, false, false] rfl rfl (by kernel_rfl) (fun _ _ _ h => h) (Or.inl ⟨by rfl, ?_⟩) ?_ ?_
  rotate_left
  · intro w'
    go_simp
    with_reducible rfl
  rotate_left
  · simp only [Act.put, List.setIfInBounds_toArray, List.set_cons_zero, List.set_cons_succ, i64_w, i32_w]
    rfl
  refine pure_ (i := 2) (N := (some 33)) (v := ?_) (a' := ?_) #[true, true, true, false, false, false, false, false, false, false, false] rfl rfl (by kernel_rfl) (fun _ _ _ h => h) (Or.inl ⟨by rfl, ?_⟩) ?_ ?_
  rotate_left
  · intro w'
    go_simp
    with_reducible rfl
  rotate_left
  · simp only [Act.put, List.setIfInBounds_toArray, List.set_cons_zero, List.set_cons_succ, i64_w, i32_w]
    rfl
  refine take_ (i := 3) (N := (some 34)) (v := ?_) (a' := ?_) #[true, true, true, true, false, false, false, false, false, false, false] rfl rfl (by kernel_rfl) (fun _ _ _ h => h) (Or.inl ⟨by rfl, ?_⟩) hHeld ?_ ?_
  rotate_left
  · rintro w' ⟨s0, s1, s2, s3⟩
    go_simp
    with_reducible rfl
  rotate_left
  · simp only [Act.put, List.setIfInBounds_toArray, List.set_cons_zero, List.set_cons_succ, i64_w, i32_w]
    rfl
  refine pure_ (i := 5) (N := (some 36)) (v := ?_) (a' := ?_) #[true, true, true, true, false, true, false, false, false, false, false] rfl rfl (by kernel_rfl) (fun _ _ _ h => h) (Or.inl ⟨by rfl, ?_⟩) ?_ ?_
  rotate_left
  · intro w'
    go_simp
    with_reducible rfl
  rotate_left
  · simp only [Act.put, List.setIfInBounds_toArray, List.set_cons_zero, List.set_cons_succ, i64_w, i32_w]
    rfl
  refine pure_ (i := 6) (N := (some 37)) (v := ?_) (a' := ?_) #[true, true, true, true, false, true, true, false, false, false, false] rfl rfl (by kernel_rfl) (fun _ _ _ h => h) (Or.inl ⟨by rfl, ?_⟩) ?_ ?_
  rotate_left
  · intro w'
    go_simp
    with_reducible rfl
  rotate_left
  · simp only [Act.put, List.setIfInBounds_toArray, List.set_cons_zero, List.set_cons_succ, i64_w, i32_w]
    rfl
  refine pure_ (i := 7) (N := (some 38)) (v := ?_) (a' := ?_) #[true, true, true, true, false, true, true, true, false, false, false] rfl rfl (by kernel_rfl) (fun _ _ _ h => h) (Or.inl ⟨by rfl, ?_⟩) ?_ ?_
  rotate_left
  · intro w'
    go_simp
    with_reducible rfl
  rotate_left
  · simp only [Act.put, List.setIfInBounds_toArray, List.set_cons_zero, List.set_cons_succ, i64_w, i32_w]
    rfl
  refine one_ (i := 4) (N := (some 35)) #[true, true, true, true, true, true, true, true, false, false, false] rfl rfl (by kernel_rfl) (by decide) (fun K hK => ?_)
  refine value_ (w1 := V0.alloc (.cells #[.string a1, .bool v0, .int .i64 v1, .string v2] 25)) (v := .slice (some ⟨V0.heap.size, 0, none⟩) 1 1) (by rfl) rfl (by go_simp) ?_
  have kx : (V0.alloc (.cells #[.string a1, .bool v0, .int .i64 v1, .string v2] 25)).heap[V0.heap.size]? = some (.cells #[.string a1, .bool v0, .int .i64 v1, .string v2] 25 (0, 0)) := heap_alloc_new V0 _
  have hb1_ : Below W.heap.size W (V0.alloc (.cells #[.string a1, .bool v0, .int .i64 v1, .string v2] 25)) := below_alloc hb0 _
  refine hK.out _ _ (hS _ hb1_) (fun hHeld => ?_)
  clear hK K
  generalize V0.alloc (.cells #[.string a1, .bool v0, .int .i64 v1, .string v2] 25) = V1 at kx hb1_ hHeld ⊢
  generalize V0.heap.size = g1 at kx ⊢
  refine norm_ (a' := ?_) ?_ ?_
  rotate_left
  · show Act.put _ (some 35) _ = _
    simp only [Act.put, List.setIfInBounds_toArray, List.set_cons_zero, List.set_cons_succ, i64_w, i32_w]
    rfl
  refine one_ (i := 8) (N := (some 39)) #[true, true, true, true, true, true, true, true, true, false, false] rfl rfl (by kernel_rfl) (by decide) (fun K hK => ?_)
  refine value_ (w1 := V1.alloc (.cells #[.slice A i c, .slice (some ⟨g1, 0, none⟩) 1 1, .slice A2 (n - (i)) (c - (i))] 26)) (v := .slice (some ⟨V1.heap.size, 0, none⟩) 3 3) (by rfl) rfl (by go_simp) ?_
  have ky : (V1.alloc (.cells #[.slice A i c, .slice (some ⟨g1, 0, none⟩) 1 1, .slice A2 (n - (i)) (c - (i))] 26)).heap[V1.heap.size]? = some (.cells #[.slice A i c, .slice (some ⟨g1, 0, none⟩) 1 1, .slice A2 (n - (i)) (c - (i))] 26 (0, 0)) := heap_alloc_new V1 _
  have kx2 : (V1.alloc (.cells #[.slice A i c, .slice (some ⟨g1, 0, none⟩) 1 1, .slice A2 (n - (i)) (c - (i))] 26)).heap[g1]? = some (.cells #[.string a1, .bool v0, .int .i64 v1, .string v2] 25 (0, 0)) := (Val.old_alloc (Val.lt_blk kx)).trans kx
  have hb2_ : Below W.heap.size W (V1.alloc (.cells #[.slice A i c, .slice (some ⟨g1, 0, none⟩) 1 1, .slice A2 (n - (i)) (c - (i))] 26)) := below_alloc hb1_ _
  refine hK.out _ _ (hS _ hb2_) (fun hHeld => ?_)
  clear hK K
  generalize V1.alloc (.cells #[.slice A i c, .slice (some ⟨g1, 0, none⟩) 1 1, .slice A2 (n - (i)) (c - (i))] 26) = V2 at ky kx2 hb2_ hHeld ⊢
  generalize V1.heap.size = g2 at ky ⊢
  refine norm_ (a' := ?_) ?_ ?_
  rotate_left
  · show Act.put _ (some 39) _ = _
    simp only [Act.put, List.setIfInBounds_toArray, List.set_cons_zero, List.set_cons_succ, i64_w, i32_w]
    rfl
  refine one_ (i := 9) (N := (some 40)) #[true, true, true, true, true, true, true, true, true, true, false] rfl rfl (by kernel_rfl) (by decide) (fun K hK => ?_)
  refine goes_ Tryz.func28 (by kernel_rfl) rfl #[.slice (some ⟨g2, 0, none⟩) 3 3] (by rfl) rfl rfl (by (try simp only [List.map_toArray, List.map_cons, List.map_nil]); first | done | rfl) ?_
  have HX2 := Kd.C_below HR.out (below_then hW0 hW0.size hb2_)
  have hdl : (l.drop (i)).length = n - (i) := by rw [List.length_drop, HL.out]
  have htl : (l.take i).length = i := by rw [List.length_take, HL.out]; omega
  have hlc : l.length ≤ c := by have := HL.out; omega
  have hcd := Kd.C_drop HX2 (m := i) (c := c) (by have := HL.out; omega) hlc
  rw [show k25.sz = 4 from rfl, HA.out] at hcd
  have H3 := cc_three ky (l1 := l.take i) (l2 := [(⟨a1, ⟨v0, v1, v2⟩⟩ : S25)]) (l3 := l.drop (i)) (Kd.C_take HX2 (by have := HL.out; omega)) htl (by omega) (one_25 ⟨a1, ⟨v0, v1, v2⟩⟩ kx2) rfl (Nat.le_refl _) hcd hdl (by omega)
  refine (slices_Concat.calls _ 3 _ V2 H3 (by simp) (by simp [hdl]; omega)).mono ?_
  rintro e V3 ⟨v3, rfl, hR3, hb3⟩
  refine ⟨_, rfl, ?_⟩
  have hb3_ : Below W.heap.size W V3 := below_step hb2_ hb3
  refine hK.out _ _ (hS _ hb3_) (fun hHeld => ?_)
  clear hK K
  refine norm_ (a' := ?_) ?_ ?_
  rotate_left
  · show Act.put _ (some 40) _ = _
    simp only [Act.put, List.setIfInBounds_toArray, List.set_cons_zero, List.set_cons_succ, i64_w, i32_w]
    rfl
  refine pure_ (i := 10) (N := (some 6)) (v := ?_) (a' := ?_) #[true, true, true, true, true, true, true, true, true, true, true] rfl rfl (by kernel_rfl) (fun _ _ _ h => h) (Or.inl ⟨by rfl, ?_⟩) ?_ ?_
  rotate_left
  · intro w'
    go_simp
    with_reducible rfl
  rotate_left
  · simp only [Act.put, List.setIfInBounds_toArray, List.set_cons_zero, List.set_cons_succ, i64_w, i32_w]
    rfl
  refine done_ (by kernel_rfl) ?_
  have HF := Aside0.mk (below_then hW0 hW0.size hb3_)
  have HV := Aside0.mk (Kd.R_lower hR3 (Nat.le_trans hW0.size hb2_.size))
  clear hR3
  go_wp2
  go_ret
  refine ⟨_, rfl, ?_, HF.out⟩
  have := HV.out
  simpa using this
theorem tuple_Put.calls (A0 : Option Addr) (c0 : Nat) (l0 : List S25) (a1 : ByteArray) (a2_0 : Bool) (a2_1 : Int) (a2_2 : ByteArray) (r : List S25) (w : World) (hr0 : Kd.C k25 w A0 l0.length l0) (hc0 : l0.length ≤ c0) (h : tuple_Put.f l0 a1 a2_0 a2_1 a2_2 = some r) :
    Calls Tryz.prog 10 #[.slice A0 l0.length c0, .string a1, .agg #[.bool a2_0, .int .i64 a2_1, .string a2_2]] w fun e w' => ∃ v0_ : Value, e = .returned v0_ ∧ Kd.R k25 25 w' w.heap.size (fun _ => True) v0_ r ∧ Below w.heap.size w w' := by
  unfold tuple_Put.f at h
  split at h
  · split at h
    · rename_i h1 h2
      obtain rfl := Option.some.inj h
      have hR := upB_iff.1 h2
      cases hm : pmet l0 a1 with
      | true =>
        rw [put_true hR ⟨a1, ⟨a2_0, a2_1, a2_2⟩⟩ hm]
        have h3 : pcnt l0 a1 < l0.length := by unfold pmet at hm; simp only [Bool.and_eq_true, decide_eq_true_eq] at hm; exact hm.1
        exact tuple_Put.true_ A0 c0 _ _ l0 a1 a2_0 a2_1 a2_2 w hr0 hc0 rfl h1 hR rfl (pcnt_le _ _) h3 hm
      | false =>
        rw [put_false hR ⟨a1, ⟨a2_0, a2_1, a2_2⟩⟩ hm]
        exact tuple_Put.false_ A0 c0 _ _ l0 a1 a2_0 a2_1 a2_2 w hr0 hc0 rfl h1 hR rfl (pcnt_le _ _) hm
    · cases h
  · cases h
end Go.Proofs.YtgdieejhglhkcaaGreatDoor.MTup
