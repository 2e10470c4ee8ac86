import Derived.Test.YtfabnapjbgamaaaRelP
import Derived.Test.YtfabnapjbgamaaaRelJ
namespace Go.Proofs.Ytfabnapjbgamaaa.MRelTrue
open Go.RowKit Go.Lib Go.Proofs.YtfabnapjbgamaaaW.PrintWords Go.Proofs.YtfabnapjbgamaaaW.PrintLast Go.Proofs.YtfabnapjbgamaaaW.PrintMore
set_option linter.unusedVariables false
set_option linter.unusedSimpArgs false
/-! ### RelMore: the plain law -/
theorem up_fuel {α : Type} {g : Nat → Option α} (hm : ∀ k, LeO (g k) (g (k + 1))) {n : Nat} {r : α} (h : g n = some r) : ∀ m, n ≤ m → g m = some r := by
  intro m hnm
  obtain ⟨d, rfl⟩ : ∃ d, m = n + d := ⟨m - n, by omega⟩
  clear hnm
  induction d with
  | zero => exact h
  | succ d ih => exact hm _ _ ih
def getA : List S42 → ByteArray → Option S40
  | [], _ => none
  | x :: t, s => if x.f0.toList = s.toList then some x.f1 else getA t s
def mch (p : List S23) (l : List S42) : Bool := p.all (fun c => match getA l c.f0 with | none => false | some v => H1 c v)
theorem rd42 (l : List S42) (i : Nat) : rd_T42 l (i : Int) = l.getD i z42 := by unfold rd_T42; rw [Int.toNat_natCast]
theorem rd23 (l : List S23) (i : Nat) : rd_T23 l (i : Int) = l.getD i z23 := by unfold rd_T23; rw [Int.toNat_natCast]
theorem drop42 (l : List S42) (i : Nat) (hi : i < l.length) : l.drop i = l.getD i z42 :: l.drop (i + 1) := by
  rw [List.drop_eq_getElem_cons hi, List.getD_eq_getElem?_getD, List.getElem?_eq_getElem hi]
  rfl
theorem wrap_nat (i : Nat) (h : i ≤ 1000000) : wrap64 ((i : Int) + 1) = ((i + 1 : Nat) : Int) := by unfold wrap64; omega
theorem get_l0 (l : List S42) (s : ByteArray) (hl : l.length ≤ 1000) : ∀ (d i k : Nat), i + d = l.length → d + 1 ≤ k →
    tuple_Get.l0 k s l l.length i = some (match getA (l.drop i) s with | some v => (v.f0, v.f1, v.f2, true) | none => (false, 0, (⟨#[]⟩ : ByteArray), false))
  | 0, i, k, h, hk => by
    obtain ⟨k, rfl⟩ : ∃ q, k = q + 1 := ⟨k - 1, by omega⟩
    rw [tuple_Get.l0, if_neg (by omega), List.drop_of_length_le (by omega)]
    rfl
  | d + 1, i, k, h, hk => by
    obtain ⟨k, rfl⟩ : ∃ q, k = q + 1 := ⟨k - 1, by omega⟩
    rw [tuple_Get.l0, if_pos (by omega), if_pos (by omega), if_pos (by omega), rd42, drop42 l i (by omega), getA]
    by_cases hc : (l.getD i z42).f0.toList = s.toList
    · rw [if_pos hc, if_pos hc]
    · rw [if_neg hc, if_neg hc, wrap_nat i (by omega)]
      exact get_l0 l s hl d (i + 1) k (by omega) (by omega)
theorem get_char (l : List S42) (s : ByteArray) (hl : l.length ≤ 9) (k : Nat) (hk : 10 ≤ k) : tuple_Get.f k l s = some (match getA l s with | some v => (v.f0, v.f1, v.f2, true) | none => (false, 0, (⟨#[]⟩ : ByteArray), false)) :=
  get_l0 l s (by omega) l.length 0 k (by omega) (by omega)
theorem match_l0 (l : List S42) (p : List S23) (hl : l.length ≤ 9) (hp : p.length ≤ 9) : ∀ (d i k : Nat), i + d = p.length → d + 11 ≤ k →
    rel_Match.l0 k l p p.length i = some (mch (p.drop i) l)
  | 0, i, k, h, hk => by
    obtain ⟨k, rfl⟩ : ∃ q, k = q + 1 := ⟨k - 1, by omega⟩
    rw [rel_Match.l0, if_neg (by omega), List.drop_of_length_le (by omega)]
    rfl
  | d + 1, i, k, h, hk => by
    obtain ⟨k, rfl⟩ : ∃ q, k = q + 1 := ⟨k - 1, by omega⟩
    have ih := match_l0 l p hl hp d (i + 1) k (by omega) (by omega)
    rw [rel_Match.l0, if_pos (by omega), if_pos (by omega), if_pos (by omega), rd23, get_char l _ hl k (by omega), drop_get p i (by omega)]
    generalize p.getD i z23 = c
    have e : mch (c :: p.drop (i + 1)) l = ((match getA l c.f0 with | none => false | some v => H1 c v) && mch (p.drop (i + 1)) l) := by simp [mch]
    rw [e]
    cases hg : getA l c.f0 with
    | none => rfl
    | some v =>
      simp only [Option.bind_some, if_true]
      rw [holds_f c v]
      cases hh : H1 c v
      · rfl
      · simp only [Option.bind_some, if_true, Bool.true_and]
        rw [wrap_nat i (by omega)]
        exact ih
theorem match_char (p : List S23) (l : List S42) (hl : l.length ≤ 9) (hp : p.length ≤ 9) (k : Nat) (hk : 20 ≤ k) : rel_Match.f k p l = some (mch p l) :=
  match_l0 l p hl hp p.length 0 k (by omega) (by omega)
/-! the law's tuples: names of nms alone -/
structure TI (r : List S42) : Prop where
  len : r.length ≤ 5
  name : ∀ x ∈ r, x.f0 ∈ nms
theorem tup_step (k : Nat) (x3 : List S42) (a b : List Int) (i : Nat) (h : i < 7) :
    ∃ c : Bool, (c = true → (x3.length : Int) < 5) ∧ broadsidekeep_Tuple_Tuple.l0 (k + 1) x3 nms (nms.length : Int) i a b = broadsidekeep_Tuple_Tuple.j1 k x3 i (rdOf ByteArray.empty nms i) nms (nms.length : Int) i c a b := by
  have h7 : (nms.length : Int) = 7 := rfl
  rw [broadsidekeep_Tuple_Tuple.l0, if_pos (by omega), if_pos (by omega), if_pos (by omega)]
  split
  · split
    · exact ⟨_, fun h => by simpa using h, rfl⟩
    · exact ⟨false, fun h => by simp at h, rfl⟩
  · exact ⟨false, fun h => by simp at h, rfl⟩
theorem tup_next (k : Nat) (x3 : List S42) (a b : List Int) (i : Nat) (c : Bool) (hi : i < 7) (hI : TI x3) (hc : c = true → (x3.length : Int) < 5) :
    ∃ x3' : List S42, TI x3' ∧ broadsidekeep_Tuple_Tuple.j1 (k + 1) x3 i (rdOf ByteArray.empty nms i) nms (nms.length : Int) i c a b = broadsidekeep_Tuple_Tuple.l0 k x3' nms (nms.length : Int) (wrap64 ((i : Int) + 1)) a b := by
  rw [broadsidekeep_Tuple_Tuple.j1]
  cases c
  · exact ⟨x3, hI, by rw [if_neg (by simp)]⟩
  · have h5 := hc rfl
    obtain ⟨t, ht⟩ := pick_some b i (by omega)
    obtain ⟨q, hq⟩ := value_vals t
    rw [if_pos rfl, ht]
    simp only [Option.bind_some]
    rw [hq]
    simp only [Option.bind_some]
    rw [if_pos (by omega)]
    have hnm : rdOf ByteArray.empty nms (i : Int) = nms.getD i ⟨#[]⟩ := by unfold rdOf; rw [Int.toNat_natCast]; rfl
    refine ⟨_, { len := by simp; omega, name := fun x hx => ?_ }, rfl⟩
    rcases List.mem_append.1 hx with h | h
    · exact hI.name x h
    · simp only [List.mem_singleton] at h
      subst h
      show rdOf ByteArray.empty nms (i : Int) ∈ nms
      rw [hnm, List.getD_eq_getElem?_getD, List.getElem?_eq_getElem (show i < nms.length from hi)]
      exact List.getElem_mem _
theorem tup_all (a b : List Int) : ∀ (d i k : Nat) (x3 : List S42), i + d = 7 → 2 * d + 1 ≤ k → TI x3 → ∃ r, broadsidekeep_Tuple_Tuple.l0 k x3 nms (nms.length : Int) i a b = some r ∧ TI r
  | 0, i, k, x3, h, hk, hI => by
    obtain ⟨k, rfl⟩ : ∃ q, k = q + 1 := ⟨k - 1, by omega⟩
    have h7 : (nms.length : Int) = 7 := rfl
    exact ⟨x3, by rw [broadsidekeep_Tuple_Tuple.l0, if_neg (by omega)], hI⟩
  | d + 1, i, k, x3, h, hk, hI => by
    obtain ⟨k, rfl⟩ : ∃ q, k = q + 1 + 1 := ⟨k - 2, by omega⟩
    obtain ⟨c, hc, e1⟩ := tup_step (k + 1) x3 a b i (by omega)
    obtain ⟨y, hy, e2⟩ := tup_next k x3 a b i c (by omega) hI hc
    rw [e1, e2, wrap_nat i (by omega)]
    exact tup_all a b d (i + 1) k y (by omega) (by omega) hy
theorem tup_nice (a b : List Int) (k : Nat) (hk : 20 ≤ k) : ∃ r, broadsidekeep_Tuple_Tuple.f k a b = some r ∧ TI r :=
  tup_all a b 7 0 k [] rfl (by omega) ⟨Nat.zero_le _, fun x hx => by simp at hx⟩
abbrev zz1 : ByteArray := ⟨#[122]⟩
abbrev us5 : List ByteArray := [(⟨#[117]⟩ : ByteArray), (⟨#[118]⟩ : ByteArray), (⟨#[119]⟩ : ByteArray), (⟨#[120]⟩ : ByteArray), (⟨#[121]⟩ : ByteArray)]
abbrev nsB : List ByteArray := nms ++ (us5 ++ [zz1])
theorem nsB_ok : nsOk nsB := by
  have h1 : (nsB.all fun s => tuple_Name.f 10 s == some true) = true := by kernel_rfl
  have h2 : (nsB.all fun s => decide (s.size ≤ maxLen)) = true := by kernel_rfl
  exact fun s hs => ⟨by simpa using List.all_eq_true.1 h1 s hs, by simpa using List.all_eq_true.1 h2 s hs⟩
theorem Nice.wide {l : List S23} (h : Nice nms l) : Nice nsB l := { h with name := fun c hc => List.mem_append.2 (.inl (h.name c hc)) }
theorem Nice.rest {ns : List ByteArray} {c : S23} {t : List S23} (h : Nice ns (c :: t)) : Nice ns t :=
  { rises := rises_tail h.rises, ok := fun x hx => h.ok x (List.mem_cons_of_mem _ hx), len := by have := h.len; simp at this; omega, name := fun x hx => h.name x (List.mem_cons_of_mem _ hx) }
theorem meetsK {a b : List S23} (ha : Nice nsB a) (hb : Nice nsB b) (k : Nat) (hk : 10 ≤ k) : rel_Meets.f k a b = some (mt a b) :=
  up_fuel (g := fun k => rel_Meets.f k a b) (fun k => rel_Meets.mono a b k) (meets_char nsB_ok ha hb) k hk
theorem z_far : ∀ s ∈ nms, cmpB s zz1 < 0 := by
  have h : (nms.all fun s => decide (cmpB s zz1 < 0)) = true := by kernel_rfl
  intro s hs
  simpa using List.all_eq_true.1 h s hs
theorem z_not {s : ByteArray} (hs : s ∈ nms) : s ≠ zz1 := fun e => by
  have := z_far s hs
  rw [e, cmpB_self] at this
  omega
theorem nice_more {p : List S23} (hp : Nice nms p) (hl : p.length ≤ 4) {c : S23} (hc : okC c) (hn : c.f0 = zz1) : Nice nsB (p ++ [c]) :=
  { rises := rises_mk hp.rises (fun x hx => by rw [hn]; exact z_far _ (hp.name x hx))
    ok := fun x hx => by
      rcases List.mem_append.1 hx with h | h
      · exact hp.ok x h
      · simp only [List.mem_singleton] at h
        rw [h]
        exact hc
    len := by simp; omega
    name := fun x hx => by
      rcases List.mem_append.1 hx with h | h
      · exact List.mem_append.2 (.inl (hp.name x h))
      · simp only [List.mem_singleton] at h
        rw [h, hn]
        exact List.mem_append.2 (.inr (List.mem_append.2 (.inr (by simp)))) }
theorem cv_more {p : List S23} {c : S23} (hm : Rises (p ++ [c])) : cv p (p ++ [c]) = true := (cv_iff hm).2 (fun x hx => ⟨x, List.mem_append.2 (.inl hx), rfl, widB_refl x⟩)
theorem cv_less {p : List S23} (hp : Nice nms p) {c : S23} (hn : c.f0 = zz1) : cv (p ++ [c]) p = false := by
  cases h : cv (p ++ [c]) p
  · rfl
  · obtain ⟨x, hx, e, _⟩ := (cv_iff hp.rises).1 h c (List.mem_append.2 (.inr (by simp)))
    exact absurd (e.trans hn) (z_not (hp.name x hx))
theorem getA_none {l : List S42} {s : ByteArray} (h : ∀ x ∈ l, x.f0 ≠ s) : getA l s = none := by
  induction l with
  | nil => rfl
  | cons x t ih =>
    rw [getA, if_neg (fun e => h x List.mem_cons_self (toList_inj e))]
    exact ih (fun y hy => h y (List.mem_cons_of_mem _ hy))
theorem getA_snoc {l : List S42} {s : ByteArray} {x : S42} (h : x.f0 ≠ s) : getA (l ++ [x]) s = getA l s := by
  induction l with
  | nil =>
    show (if x.f0.toList = s.toList then some x.f1 else getA [] s) = getA [] s
    rw [if_neg (fun e => h (toList_inj e))]
  | cons y t ih => rw [List.cons_append, getA, getA, ih]
theorem mch_more {p : List S23} {l : List S42} (hl : ∀ x ∈ l, x.f0 ∈ nms) {c : S23} (hn : c.f0 = zz1) : mch (p ++ [c]) l = false := by
  have : getA l c.f0 = none := getA_none (fun x hx => by rw [hn]; exact z_not (hl x hx))
  simp [mch, this]
theorem mch_wide {p : List S23} (hp : Nice nms p) {l : List S42} {x : S42} (hx : ∀ s ∈ nms, x.f0 ≠ s) : mch p (l ++ [x]) = mch p l := by
  have hn := hp.name
  clear hp
  unfold mch
  induction p with
  | nil => rfl
  | cons c t ih =>
    rw [List.all_cons, List.all_cons, getA_snoc (hx _ (hn c List.mem_cons_self)), ih (fun y hy => hn y (List.mem_cons_of_mem _ hy))]
theorem mt_more {p q : List S23} {c : S23} (hp : Rises p) (hq : Rises q) (hm : Rises (p ++ [c])) (h : mt (p ++ [c]) q = true) : mt p q = true := by
  obtain ⟨h1, h2⟩ := (mt_iff hm).1 h
  rw [mt_iff hp]
  refine ⟨fun x hx y hy e => h1 x (List.mem_append.2 (.inl hx)) y hy e, Nat.le_trans (uni_le hp hq (fun s hs => ?_)) h2⟩
  rcases hs with ⟨x, hx, e⟩ | hs
  · exact .inl ⟨x, List.mem_append.2 (.inl hx), e⟩
  · exact .inr hs
abbrev six5 : List S23 := us5.map (fun s => (⟨s, 3, 0, 0, (⟨#[]⟩ : ByteArray)⟩ : S23))
theorem six_rise : Rises six5 := by
  have hd : ((List.range 5).all fun i => (List.range i).all fun j => decide (cmpB (six5.getD j z23).f0 (six5.getD i z23).f0 < 0)) = true := by kernel_rfl
  intro a b hab hb
  have := List.all_eq_true.1 (List.all_eq_true.1 hd b (List.mem_range.2 hb)) a (List.mem_range.2 hab)
  simpa using this
theorem six_form {c : S23} (h : c ∈ six5) : c.f0 ∈ us5 ∧ okC c := by
  obtain ⟨s, hs, rfl⟩ := List.mem_map.1 h
  refine ⟨hs, .inr (List.mem_append.2 (.inr (List.mem_map.2 ⟨⟨#[]⟩, by simp [fo_tx], rfl⟩)))⟩
theorem six_nice : Nice nsB six5 := { rises := six_rise, ok := fun c hc => (six_form hc).2, len := Nat.le_refl _, name := fun c hc => List.mem_append.2 (.inr (List.mem_append.2 (.inl (six_form hc).1))) }
theorem three_nice : Nice nsB (six5.take 3) :=
  { rises := fun a b hab hb => by
      have hb3 : b < 3 := by simpa using hb
      have := six_rise a b hab (by show b < 5; omega)
      have e : ∀ t, t < 3 → (six5.take 3).getD t z23 = six5.getD t z23 := fun t ht => by
        rw [List.getD_eq_getElem?_getD, List.getD_eq_getElem?_getD, List.getElem?_take_of_lt ht]
      rw [e a (by omega), e b hb3]
      exact this
    ok := fun c hc => (six_form (List.mem_of_mem_take hc)).2
    len := by decide
    name := fun c hc => six_nice.name c (List.mem_of_mem_take hc) }
theorem us_not : ∀ s ∈ us5, ∀ t ∈ nms, s ≠ t := by
  have hd : (us5.all fun s => nms.all fun t => decide (cmpB t s < 0)) = true := by kernel_rfl
  intro s hs t ht e
  have := List.all_eq_true.1 (List.all_eq_true.1 hd s hs) t ht
  rw [e, cmpB_self] at this
  simp at this
theorem six_mt {p : List S23} (hp : Nice nms p) : mt six5 p = ((p.length : Int) == 0) := by
  have hn : ∀ y ∈ p, cov.last six5 y.f0 = none := fun y hy => by
    cases h : cov.last six5 y.f0 with
    | none => rfl
    | some x =>
      obtain ⟨h1, h2⟩ := last_some h
      exact absurd h2 (us_not _ (six_form h1).1 _ (hp.name y hy))
  have hf : fresh six5 p = p.length := by
    unfold fresh
    rw [List.filter_eq_self.2 (fun y hy => by rw [hn y hy]; rfl)]
  rw [Bool.eq_iff_iff, mt_iff six_rise, hf]
  have h5 : six5.length = 5 := rfl
  rw [h5]
  simp only [beq_iff_eq]
  constructor
  · rintro ⟨_, h⟩
    omega
  · intro h
    refine ⟨fun x hx y hy e => absurd e (us_not _ (six_form hx).1 _ (hp.name y hy)), by omega⟩
theorem six_three : mt six5 (six5.take 3) = true := by kernel_rfl
theorem coversK {a b : List S23} (ha : Nice nsB a) (hb : Nice nsB b) : rel_Covers.f a b = some (cv a b) := covers_char nsB_ok ha hb
theorem predK (a b : List Int) (k : Nat) (hk : 20 ≤ k) : ∃ r, broadsidekeep_Pred_Pred.f k a b = some r ∧ Nice nms r := by
  obtain ⟨r, h, hr⟩ := pred_nice a b
  exact ⟨r, up_fuel (g := fun k => broadsidekeep_Pred_Pred.f k a b) (fun k => broadsidekeep_Pred_Pred.mono a b k) h k hk, hr⟩
end Go.Proofs.Ytfabnapjbgamaaa.MRelTrue
