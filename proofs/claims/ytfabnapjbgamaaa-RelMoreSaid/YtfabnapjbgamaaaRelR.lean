import Derived.Test.YtfabnapjbgamaaaRelQ
import Derived.Test.YtfabnapjbgamaaaRelJ
namespace Go.Proofs.Ytfabnapjbgamaaa.MRelTrue
open Go.RowKit Go.Lib Go.Proofs.YtfabnapjbgamaaaW.PrintWords Go.Proofs.YtfabnapjbgamaaaW.PrintLast Go.Proofs.YtfabnapjbgamaaaW.PrintMore
set_option linter.unusedVariables false
set_option linter.unusedSimpArgs false
/-! ### RelMore: the plain law -/
theorem up_fuel {α : Type} {g : Nat → Option α} (hm : ∀ k, LeO (g k) (g (k + 1))) {n : Nat} {r : α} (h : g n = some r) : ∀ m, n ≤ m → g m = some r := by
  intro m hnm
  obtain ⟨d, rfl⟩ : ∃ d, m = n + d := ⟨m - n, by omega⟩
  clear hnm
  induction d with
  | zero => exact h
  | succ d ih => exact hm _ _ ih
def getA : List S42 → ByteArray → Option S40
  | [], _ => none
  | x :: t, s => if x.f0.toList = s.toList then some x.f1 else getA t s
def mch (p : List S23) (l : List S42) : Bool := p.all (fun c => match getA l c.f0 with | none => false | some v => H1 c v)
theorem rd42 (l : List S42) (i : Nat) : rd_T42 l (i : Int) = l.getD i z42 := by unfold rd_T42; rw [Int.toNat_natCast]
theorem rd23 (l : List S23) (i : Nat) : rd_T23 l (i : Int) = l.getD i z23 := by unfold rd_T23; rw [Int.toNat_natCast]
theorem drop42 (l : List S42) (i : Nat) (hi : i < l.length) : l.drop i = l.getD i z42 :: l.drop (i + 1) := by
  rw [List.drop_eq_getElem_cons hi, List.getD_eq_getElem?_getD, List.getElem?_eq_getElem hi]
  rfl
theorem wrap_nat (i : Nat) (h : i ≤ 1000000) : wrap64 ((i : Int) + 1) = ((i + 1 : Nat) : Int) := by unfold wrap64; omega
theorem get_l0 (l : List S42) (s : ByteArray) (hl : l.length ≤ 1000) : ∀ (d i k : Nat), i + d = l.length → d + 1 ≤ k →
    tuple_Get.l0 k s l l.length i = some (match getA (l.drop i) s with | some v => (v.f0, v.f1, v.f2, true) | none => (false, 0, (⟨#[]⟩ : ByteArray), false))
  | 0, i, k, h, hk => by
    obtain ⟨k, rfl⟩ : ∃ q, k = q + 1 := ⟨k - 1, by omega⟩
    rw [tuple_Get.l0, if_neg (by omega), List.drop_of_length_le (by omega)]
    rfl
  | d + 1, i, k, h, hk => by
    obtain ⟨k, rfl⟩ : ∃ q, k = q + 1 := ⟨k - 1, by omega⟩
    rw [tuple_Get.l0, if_pos (by omega), if_pos (by omega), if_pos (by omega), rd42, drop42 l i (by omega), getA]
    by_cases hc : (l.getD i z42).f0.toList = s.toList
    · rw [if_pos hc, if_pos hc]
    · rw [if_neg hc, if_neg hc, wrap_nat i (by omega)]
      exact get_l0 l s hl d (i + 1) k (by omega) (by omega)
theorem get_char (l : List S42) (s : ByteArray) (hl : l.length ≤ 9) (k : Nat) (hk : 10 ≤ k) : tuple_Get.f k l s = some (match getA l s with | some v => (v.f0, v.f1, v.f2, true) | none => (false, 0, (⟨#[]⟩ : ByteArray), false)) :=
  get_l0 l s (by omega) l.length 0 k (by omega) (by omega)
theorem match_l0 (l : List S42) (p : List S23) (hl : l.length ≤ 9) (hp : p.length ≤ 9) : ∀ (d i k : Nat), i + d = p.length → d + 11 ≤ k →
    rel_Match.l0 k l p p.length i = some (mch (p.drop i) l)
  | 0, i, k, h, hk => by
    obtain ⟨k, rfl⟩ : ∃ q, k = q + 1 := ⟨k - 1, by omega⟩
    rw [rel_Match.l0, if_neg (by omega), List.drop_of_length_le (by omega)]
    rfl
  | d + 1, i, k, h, hk => by
    obtain ⟨k, rfl⟩ : ∃ q, k = q + 1 := ⟨k - 1, by omega⟩
    have ih := match_l0 l p hl hp d (i + 1) k (by omega) (by omega)
    rw [rel_Match.l0, if_pos (by omega), if_pos (by omega), if_pos (by omega), rd23, get_char l _ hl k (by omega), drop_get p i (by omega)]
    generalize p.getD i z23 = c
    have e : mch (c :: p.drop (i + 1)) l = ((match getA l c.f0 with | none => false | some v => H1 c v) && mch (p.drop (i + 1)) l) := by simp [mch]
    rw [e]
    cases hg : getA l c.f0 with
    | none => rfl
    | some v =>
      simp only [Option.bind_some, if_true]
      rw [holds_f c v]
      cases hh : H1 c v
      · rfl
      · simp only [Option.bind_some, if_true, Bool.true_and]
        rw [wrap_nat i (by omega)]
        exact ih
theorem match_char (p : List S23) (l : List S42) (hl : l.length ≤ 9) (hp : p.length ≤ 9) (k : Nat) (hk : 20 ≤ k) : rel_Match.f k p l = some (mch p l) :=
  match_l0 l p hl hp p.length 0 k (by omega) (by omega)
/-! the law's tuples: names of nms alone -/
structure TI (r : List S42) : Prop where
  len : r.length ≤ 5
  name : ∀ x ∈ r, x.f0 ∈ nms
theorem tup_step (k : Nat) (x3 : List S42) (a b : List Int) (i : Nat) (h : i < 7) :
    ∃ c : Bool, (c = true → (x3.length : Int) < 5) ∧ broadsidekeep_Tuple_Tuple.l0 (k + 1) x3 nms (nms.length : Int) i a b = broadsidekeep_Tuple_Tuple.j1 k x3 i (rdOf ByteArray.empty nms i) nms (nms.length : Int) i c a b := by
  have h7 : (nms.length : Int) = 7 := rfl
  rw [broadsidekeep_Tuple_Tuple.l0, if_pos (by omega), if_pos (by omega), if_pos (by omega)]
  split
  · split
    · exact ⟨_, fun h => by simpa using h, rfl⟩
    · exact ⟨false, fun h => by simp at h, rfl⟩
  · exact ⟨false, fun h => by simp at h, rfl⟩
theorem tup_next (k : Nat) (x3 : List S42) (a b : List Int) (i : Nat) (c : Bool) (hi : i < 7) (hI : TI x3) (hc : c = true → (x3.length : Int) < 5) :
    ∃ x3' : List S42, TI x3' ∧ broadsidekeep_Tuple_Tuple.j1 (k + 1) x3 i (rdOf ByteArray.empty nms i) nms (nms.length : Int) i c a b = broadsidekeep_Tuple_Tuple.l0 k x3' nms (nms.length : Int) (wrap64 ((i : Int) + 1)) a b := by
  rw [broadsidekeep_Tuple_Tuple.j1]
  cases c
  · exact ⟨x3, hI, by rw [if_neg (by simp)]⟩
  · have h5 := hc rfl
    obtain ⟨t, ht⟩ := pick_some b i (by omega)
    obtain ⟨q, hq⟩ := value_vals t
    rw [if_pos rfl, ht]
    simp only [Option.bind_some]
    rw [hq]
    simp only [Option.bind_some]
    rw [if_pos (by omega)]
    have hnm : rdOf ByteArray.empty nms (i : Int) = nms.getD i ⟨#[]⟩ := by unfold rdOf; rw [Int.toNat_natCast]; rfl
    refine ⟨_, { len := by simp; omega, name := fun x hx => ?_ }, rfl⟩
    rcases List.mem_append.1 hx with h | h
    · exact hI.name x h
    · simp only [List.mem_singleton] at h
      subst h
      show rdOf ByteArray.empty nms (i : Int) ∈ nms
      rw [hnm, List.getD_eq_getElem?_getD, List.getElem?_eq_getElem (show i < nms.length from hi)]
      exact List.getElem_mem _
theorem tup_all (a b : List Int) : ∀ (d i k : Nat) (x3 : List S42), i + d = 7 → 2 * d + 1 ≤ k → TI x3 → ∃ r, broadsidekeep_Tuple_Tuple.l0 k x3 nms (nms.length : Int) i a b = some r ∧ TI r
  | 0, i, k, x3, h, hk, hI => by
    obtain ⟨k, rfl⟩ : ∃ q, k = q + 1 := ⟨k - 1, by omega⟩
    have h7 : (nms.length : Int) = 7 := rfl
    exact ⟨x3, by rw [broadsidekeep_Tuple_Tuple.l0, if_neg (by omega)], hI⟩
  | d + 1, i, k, x3, h, hk, hI => by
    obtain ⟨k, rfl⟩ : ∃ q, k = q + 1 + 1 := ⟨k - 2, by omega⟩
    obtain ⟨c, hc, e1⟩ := tup_step (k + 1) x3 a b i (by omega)
    obtain ⟨y, hy, e2⟩ := tup_next k x3 a b i c (by omega) hI hc
    rw [e1, e2, wrap_nat i (by omega)]
    exact tup_all a b d (i + 1) k y (by omega) (by omega) hy
theorem tup_nice (a b : List Int) (k : Nat) (hk : 20 ≤ k) : ∃ r, broadsidekeep_Tuple_Tuple.f k a b = some r ∧ TI r :=
  tup_all a b 7 0 k [] rfl (by omega) ⟨Nat.zero_le _, fun x hx => by simp at hx⟩
abbrev zz1 : ByteArray := ⟨#[122]⟩
abbrev us5 : List ByteArray := [(⟨#[117]⟩ : ByteArray), (⟨#[118]⟩ : ByteArray), (⟨#[119]⟩ : ByteArray), (⟨#[120]⟩ : ByteArray), (⟨#[121]⟩ : ByteArray)]
abbrev nsB : List ByteArray := nms ++ (us5 ++ [zz1])
theorem nsB_ok : nsOk nsB := by
  have h1 : (nsB.all fun s => tuple_Name.f 10 s == some true) = true := by kernel_rfl
  have h2 : (nsB.all fun s => decide (s.size ≤ maxLen)) = true := by kernel_rfl
  exact fun s hs => ⟨by simpa using List.all_eq_true.1 h1 s hs, by simpa using List.all_eq_true.1 h2 s hs⟩
theorem Nice.wide {l : List S23} (h : Nice nms l) : Nice nsB l := { h with name := fun c hc => List.mem_append.2 (.inl (h.name c hc)) }
theorem Nice.rest {ns : List ByteArray} {c : S23} {t : List S23} (h : Nice ns (c :: t)) : Nice ns t :=
  { rises := rises_tail h.rises, ok := fun x hx => h.ok x (List.mem_cons_of_mem _ hx), len := by have := h.len; simp at this; omega, name := fun x hx => h.name x (List.mem_cons_of_mem _ hx) }
theorem meetsK {a b : List S23} (ha : Nice nsB a) (hb : Nice nsB b) (k : Nat) (hk : 10 ≤ k) : rel_Meets.f k a b = some (mt a b) :=
  up_fuel (g := fun k => rel_Meets.f k a b) (fun k => rel_Meets.mono a b k) (meets_char nsB_ok ha hb) k hk
theorem z_far : ∀ s ∈ nms, cmpB s zz1 < 0 := by
  have h : (nms.all fun s => decide (cmpB s zz1 < 0)) = true := by kernel_rfl
  intro s hs
  simpa using List.all_eq_true.1 h s hs
theorem z_not {s : ByteArray} (hs : s ∈ nms) : s ≠ zz1 := fun e => by
  have := z_far s hs
  rw [e, cmpB_self] at this
  omega
theorem nice_more {p : List S23} (hp : Nice nms p) (hl : p.length ≤ 4) {c : S23} (hc : okC c) (hn : c.f0 = zz1) : Nice nsB (p ++ [c]) :=
  { rises := rises_mk hp.rises (fun x hx => by rw [hn]; exact z_far _ (hp.name x hx))
    ok := fun x hx => by
      rcases List.mem_append.1 hx with h | h
      · exact hp.ok x h
      · simp only [List.mem_singleton] at h
        rw [h]
        exact hc
    len := by simp; omega
    name := fun x hx => by
      rcases List.mem_append.1 hx with h | h
      · exact List.mem_append.2 (.inl (hp.name x h))
      · simp only [List.mem_singleton] at h
        rw [h, hn]
        exact List.mem_append.2 (.inr (List.mem_append.2 (.inr (by simp)))) }
theorem cv_more {p : List S23} {c : S23} (hm : Rises (p ++ [c])) : cv p (p ++ [c]) = true := (cv_iff hm).2 (fun x hx => ⟨x, List.mem_append.2 (.inl hx), rfl, widB_refl x⟩)
theorem cv_less {p : List S23} (hp : Nice nms p) {c : S23} (hn : c.f0 = zz1) : cv (p ++ [c]) p = false := by
  cases h : cv (p ++ [c]) p
  · rfl
  · obtain ⟨x, hx, e, _⟩ := (cv_iff hp.rises).1 h c (List.mem_append.2 (.inr (by simp)))
    exact absurd (e.trans hn) (z_not (hp.name x hx))
theorem getA_none {l : List S42} {s : ByteArray} (h : ∀ x ∈ l, x.f0 ≠ s) : getA l s = none := by
  induction l with
  | nil => rfl
  | cons x t ih =>
    rw [getA, if_neg (fun e => h x List.mem_cons_self (toList_inj e))]
    exact ih (fun y hy => h y (List.mem_cons_of_mem _ hy))
theorem getA_snoc {l : List S42} {s : ByteArray} {x : S42} (h : x.f0 ≠ s) : getA (l ++ [x]) s = getA l s := by
  induction l with
  | nil =>
    show (if x.f0.toList = s.toList then some x.f1 else getA [] s) = getA [] s
    rw [if_neg (fun e => h (toList_inj e))]
  | cons y t ih => rw [List.cons_append, getA, getA, ih]
theorem mch_more {p : List S23} {l : List S42} (hl : ∀ x ∈ l, x.f0 ∈ nms) {c : S23} (hn : c.f0 = zz1) : mch (p ++ [c]) l = false := by
  have : getA l c.f0 = none := getA_none (fun x hx => by rw [hn]; exact z_not (hl x hx))
  simp [mch, this]
theorem mch_wide {p : List S23} (hp : Nice nms p) {l : List S42} {x : S42} (hx : ∀ s ∈ nms, x.f0 ≠ s) : mch p (l ++ [x]) = mch p l := by
  have hn := hp.name
  clear hp
  unfold mch
  induction p with
  | nil => rfl
  | cons c t ih =>
    rw [List.all_cons, List.all_cons, getA_snoc (hx _ (hn c List.mem_cons_self)), ih (fun y hy => hn y (List.mem_cons_of_mem _ hy))]
theorem mt_more {p q : List S23} {c : S23} (hp : Rises p) (hq : Rises q) (hm : Rises (p ++ [c])) (h : mt (p ++ [c]) q = true) : mt p q = true := by
  obtain ⟨h1, h2⟩ := (mt_iff hm).1 h
  rw [mt_iff hp]
  refine ⟨fun x hx y hy e => h1 x (List.mem_append.2 (.inl hx)) y hy e, Nat.le_trans (uni_le hp hq (fun s hs => ?_)) h2⟩
  rcases hs with ⟨x, hx, e⟩ | hs
  · exact .inl ⟨x, List.mem_append.2 (.inl hx), e⟩
  · exact .inr hs
abbrev six5 : List S23 := us5.map (fun s => (⟨s, 3, 0, 0, (⟨#[]⟩ : ByteArray)⟩ : S23))
theorem six_rise : Rises six5 := by
  have hd : ((List.range 5).all fun i => (List.range i).all fun j => decide (cmpB (six5.getD j z23).f0 (six5.getD i z23).f0 < 0)) = true := by kernel_rfl
  intro a b hab hb
  have := List.all_eq_true.1 (List.all_eq_true.1 hd b (List.mem_range.2 hb)) a (List.mem_range.2 hab)
  simpa using this
theorem six_form {c : S23} (h : c ∈ six5) : c.f0 ∈ us5 ∧ okC c := by
  obtain ⟨s, hs, rfl⟩ := List.mem_map.1 h
  refine ⟨hs, .inr (List.mem_append.2 (.inr (List.mem_map.2 ⟨⟨#[]⟩, by simp [fo_tx], rfl⟩)))⟩
theorem six_nice : Nice nsB six5 := { rises := six_rise, ok := fun c hc => (six_form hc).2, len := Nat.le_refl _, name := fun c hc => List.mem_append.2 (.inr (List.mem_append.2 (.inl (six_form hc).1))) }
theorem three_nice : Nice nsB (six5.take 3) :=
  { rises := fun a b hab hb => by
      have hb3 : b < 3 := by simpa using hb
      have := six_rise a b hab (by show b < 5; omega)
      have e : ∀ t, t < 3 → (six5.take 3).getD t z23 = six5.getD t z23 := fun t ht => by
        rw [List.getD_eq_getElem?_getD, List.getD_eq_getElem?_getD, List.getElem?_take_of_lt ht]
      rw [e a (by omega), e b hb3]
      exact this
    ok := fun c hc => (six_form (List.mem_of_mem_take hc)).2
    len := by decide
    name := fun c hc => six_nice.name c (List.mem_of_mem_take hc) }
theorem us_not : ∀ s ∈ us5, ∀ t ∈ nms, s ≠ t := by
  have hd : (us5.all fun s => nms.all fun t => decide (cmpB t s < 0)) = true := by kernel_rfl
  intro s hs t ht e
  have := List.all_eq_true.1 (List.all_eq_true.1 hd s hs) t ht
  rw [e, cmpB_self] at this
  simp at this
theorem six_mt {p : List S23} (hp : Nice nms p) : mt six5 p = ((p.length : Int) == 0) := by
  have hn : ∀ y ∈ p, cov.last six5 y.f0 = none := fun y hy => by
    cases h : cov.last six5 y.f0 with
    | none => rfl
    | some x =>
      obtain ⟨h1, h2⟩ := last_some h
      exact absurd h2 (us_not _ (six_form h1).1 _ (hp.name y hy))
  have hf : fresh six5 p = p.length := by
    unfold fresh
    rw [List.filter_eq_self.2 (fun y hy => by rw [hn y hy]; rfl)]
  rw [Bool.eq_iff_iff, mt_iff six_rise, hf]
  have h5 : six5.length = 5 := rfl
  rw [h5]
  simp only [beq_iff_eq]
  constructor
  · rintro ⟨_, h⟩
    omega
  · intro h
    refine ⟨fun x hx y hy e => absurd e (us_not _ (six_form hx).1 _ (hp.name y hy)), by omega⟩
theorem six_three : mt six5 (six5.take 3) = true := by kernel_rfl
theorem more_l0_step (k : Nat) (p x14 : List S23) (i : Nat) (hi : i < 5) (hx : x14.length ≤ 10) : broadsidelaw5_RelMore.l0 (k + 1) p x14 us5 (us5.length : Int) i = broadsidelaw5_RelMore.l0 k p (x14 ++ [(⟨us5.getD i ⟨#[]⟩, 3, 0, 0, (⟨#[]⟩ : ByteArray)⟩ : S23)]) us5 (us5.length : Int) ((i + 1 : Nat) : Int) := by
  have h5 : (us5.length : Int) = 5 := rfl
  rw [broadsidelaw5_RelMore.l0, if_pos (by omega), if_pos (by omega), if_pos (by omega), if_pos (by omega), wrap_nat i (by omega)]
  have e : rdOf ByteArray.empty us5 (i : Int) = us5.getD i ⟨#[]⟩ := by unfold rdOf; rw [Int.toNat_natCast]; rfl
  rw [e]
theorem more_l0 {p : List S23} (hp : Nice nms p) (k : Nat) (hk : 20 ≤ k) : broadsidelaw5_RelMore.l0 (k + 6) p [] us5 (us5.length : Int) 0 = some true := by
  have s0 := more_l0_step (k + 5) p [] 0 (by omega) (by simp)
  have s1 := more_l0_step (k + 4) p (six5.take 1) 1 (by omega) (by decide)
  have s2 := more_l0_step (k + 3) p (six5.take 2) 2 (by omega) (by decide)
  have s3 := more_l0_step (k + 2) p (six5.take 3) 3 (by omega) (by decide)
  have s4 := more_l0_step (k + 1) p (six5.take 4) 4 (by omega) (by decide)
  refine s0.trans (s1.trans (s2.trans (s3.trans (s4.trans ?_))))
  show broadsidelaw5_RelMore.l0 (k + 1) p six5 us5 (us5.length : Int) ((5 : Nat) : Int) = some true
  have h5 : (us5.length : Int) = 5 := rfl
  have h6 : (six5.length : Int) = 5 := rfl
  rw [broadsidelaw5_RelMore.l0, if_neg (by omega), meetsK six_nice hp.wide k (by omega), six_mt hp]
  simp only [Option.bind_some]
  rw [if_pos (by simp), if_pos (by omega), meetsK six_nice three_nice k (by omega), six_three]
  rfl
theorem more_j2 {p q : List S23} {c : S23} (hp : Nice nms p) (hq : Nice nms q) (hm : Nice nsB (p ++ [c])) (k : Nat) (hk : 30 ≤ k) : broadsidelaw5_RelMore.j2 (k + 8) p q (p ++ [c]) false = some true := by
  have h3 : broadsidelaw5_RelMore.j3 (k + 7) p false = some true := by
    rw [broadsidelaw5_RelMore.j3, if_neg (by simp)]
    exact more_l0 hp k (by omega)
  rw [broadsidelaw5_RelMore.j2, if_neg (by simp), meetsK hm hq.wide (k + 7) (by omega)]
  simp only [Option.bind_some]
  cases h : mt (p ++ [c]) q
  · rw [if_neg (by simp)]
    exact h3
  · rw [if_pos rfl, meetsK hp.wide hq.wide (k + 7) (by omega), mt_more hp.rises hq.rises hm.rises h]
    simp only [Option.bind_some]
    exact h3
theorem coversK {a b : List S23} (ha : Nice nsB a) (hb : Nice nsB b) : rel_Covers.f a b = some (cv a b) := covers_char nsB_ok ha hb
theorem zz_not : ∀ s ∈ nms, (⟨#[122, 122]⟩ : ByteArray) ≠ s := by
  have hd : (nms.all fun s => decide (cmpB s (⟨#[122, 122]⟩ : ByteArray) < 0)) = true := by kernel_rfl
  intro s hs e
  have := List.all_eq_true.1 hd s hs
  rw [← e, cmpB_self] at this
  simp at this
theorem more_j1 {p q : List S23} {c : S23} (hp : Nice nms p) (hq : Nice nms q) (hm : Nice nsB (p ++ [c])) (hn : c.f0 = zz1) {l : List S42} (hl : l.length ≤ 5) (hln : ∀ x ∈ l, x.f0 ∈ nms) (k : Nat) (hk : 30 ≤ k) : broadsidelaw5_RelMore.j1 (k + 9) p q (p ++ [c]) l = some true := by
  have hpl := hp.len
  have hml := hm.len
  rw [broadsidelaw5_RelMore.j1]
  simp only [Option.bind_some, List.nil_append]
  rw [if_pos (by simp; omega), if_pos (by omega), coversK hp.wide hm, cv_more hm.rises]
  simp only [Option.bind_some, if_true]
  rw [coversK hm hp.wide, cv_less hp hn]
  simp only [Option.bind_some]
  rw [if_neg (by simp), match_char (p ++ [c]) l (by omega) (by omega) (k + 8) (by omega), mch_more hln hn]
  simp only [Option.bind_some]
  rw [if_neg (by simp), match_char p l (by omega) (by omega) (k + 8) (by omega)]
  simp only [Option.bind_some]
  rw [match_char p _ (by simp; omega) (by omega) (k + 8) (by omega), mch_wide hp zz_not]
  simp only [Option.bind_some, bne_self_eq_false]
  exact more_j2 hp hq hm k hk
theorem more_j0 {p q : List S23} (hp : Nice nms p) (hl : p.length ≤ 4) (hq : Nice nms q) (n : Int) (a b : List Int) (k : Nat) (hk : 30 ≤ k) : broadsidelaw5_RelMore.j0 (k + 10) n p q a b = some true := by
  obtain ⟨d, hd, hdc⟩ := con_any zz1 n
  obtain ⟨l, hl1, hl2⟩ := tup_nice a b (k + 9) (by omega)
  have hdk : okC (⟨zz1, d.f1, d.f2, d.f3, d.f4⟩ : S23) := by
    have := isC_name hdc
    unfold okC strip
    cases d
    simp only at this
    subst this
    exact hdc
  have hm := nice_more hp hl hdk rfl
  rw [broadsidelaw5_RelMore.j0]
  simp only [Option.bind_some, List.nil_append]
  rw [if_pos (by simp; omega), hd]
  simp only [Option.bind_some]
  rw [if_pos (by omega), hl1]
  simp only [Option.bind_some]
  have h5 := hl2.len
  by_cases h : (l.length : Int) = 5
  · rw [if_pos h, if_pos (by omega)]
    exact more_j1 hp hq hm rfl (by simp; omega) (fun x hx => hl2.name x (List.mem_of_mem_drop hx)) k hk
  · rw [if_neg h]
    exact more_j1 hp hq hm rfl h5 hl2.name k hk
theorem predK (a b : List Int) (k : Nat) (hk : 20 ≤ k) : ∃ r, broadsidekeep_Pred_Pred.f k a b = some r ∧ Nice nms r := by
  obtain ⟨r, h, hr⟩ := pred_nice a b
  exact ⟨r, up_fuel (g := fun k => broadsidekeep_Pred_Pred.f k a b) (fun k => broadsidekeep_Pred_Pred.mono a b k) h k hk, hr⟩
theorem more_true (l0 m0 : List Int) (n : Int) (l2 m2 l3 m3 : List Int) : broadsidelaw5_RelMore.f 50 l0 m0 n l2 m2 l3 m3 = some true := by
  obtain ⟨p, hp1, hp⟩ := predK l0 m0 50 (by omega)
  obtain ⟨q, hq1, hq⟩ := predK l3 m3 50 (by omega)
  unfold broadsidelaw5_RelMore.f
  rw [hp1]
  simp only [Option.bind_some]
  rw [hq1]
  simp only [Option.bind_some]
  have h5 := hp.len
  by_cases h : (p.length : Int) = 5
  · rw [if_pos h, if_pos (by omega)]
    cases p with
    | nil => simp at h
    | cons c t =>
      exact more_j0 hp.rest (by simp at h5; omega) hq n l2 m2 40 (by omega)
  · rw [if_neg h]
    exact more_j0 hp (by omega) hq n l2 m2 40 (by omega)
theorem relMore_calls (A0 B0 : Option Addr) (a0 b0 : Nat) (l0 m0 : List Int) (n1 : Int) (A2 B2 : Option Addr) (a2 b2 : Nat) (l2 m2 : List Int) (A3 B3 : Option Addr) (a3 b3 : Nat) (l3 m3 : List Int) (w : World)
    (hr0 : Kd.C (Kd.int .i64) w A0 l0.length l0) (hc0 : l0.length ≤ a0) (hs0 : Kd.C (Kd.int .i64) w B0 m0.length m0) (hd0 : m0.length ≤ b0)
    (hr2 : Kd.C (Kd.int .i64) w A2 l2.length l2) (hc2 : l2.length ≤ a2) (hs2 : Kd.C (Kd.int .i64) w B2 m2.length m2) (hd2 : m2.length ≤ b2)
    (hr3 : Kd.C (Kd.int .i64) w A3 l3.length l3) (hc3 : l3.length ≤ a3) (hs3 : Kd.C (Kd.int .i64) w B3 m3.length m3) (hd3 : m3.length ≤ b3) :
    Calls Try.prog 7 #[.agg #[.slice A0 l0.length a0, .slice B0 m0.length b0], .int .i64 n1, .agg #[.slice A2 l2.length a2, .slice B2 m2.length b2], .agg #[.slice A3 l3.length a3, .slice B3 m3.length b3]] w fun e w' => e = .returned (.bool true) ∧ Below w.heap.size w w' :=
  broadsidelaw5_RelMore.calls 50 A0 a0 l0 B0 b0 m0 n1 A2 a2 l2 B2 b2 m2 A3 a3 l3 B3 b3 m3 true w hr0 hc0 hs0 hd0 hr2 hc2 hs2 hd2 hr3 hc3 hs3 hd3 (more_true l0 m0 n1 l2 m2 l3 m3)
end Go.Proofs.Ytfabnapjbgamaaa.MRelTrue
