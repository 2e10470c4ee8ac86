import Derived.Test.YtgdieejhglhkcaaGreatDoorTuR
import Derived.Test.YtgdieejhglhkcaaGreatDoorMTupx7
import Derived.Test.YtgdieejhglhkcaaGreatDoorMTupx4
namespace Go.Proofs.YtgdieejhglhkcaaGreatDoor.MTup
open Go.RowKit Go.Lib Go.Proofs.YtgdieejhglhkcaaGreatDoorW.PrintWords Go.Proofs.YtgdieejhglhkcaaGreatDoorW.PrintLast Go.Proofs.YtgdieejhglhkcaaGreatDoorW.PrintMore
set_option linter.unusedVariables false
set_option linter.unusedSimpArgs false

theorem toList_inj {a b : ByteArray} (h : a.toList = b.toList) : a = b := by
  rw [Go.ByteArray.toList_eq, Go.ByteArray.toList_eq] at h
  exact ByteArray.ext (Array.ext' h)
theorem up_fuel {α : Type} {g : Nat → Option α} (hm : ∀ k, LeO (g k) (g (k + 1))) {n : Nat} {r : α} (h : g n = some r) : ∀ m, n ≤ m → g m = some r := by
  intro m hnm
  obtain ⟨d, rfl⟩ : ∃ d, m = n + d := ⟨m - n, by omega⟩
  clear hnm
  induction d with
  | zero => exact h
  | succ d ih => exact hm _ _ ih
abbrev nms : List ByteArray := [(⟨#[97]⟩ : ByteArray), (⟨#[98]⟩ : ByteArray), (⟨#[99]⟩ : ByteArray), (⟨#[100]⟩ : ByteArray), (⟨#[101]⟩ : ByteArray), (⟨#[102]⟩ : ByteArray), (⟨#[103]⟩ : ByteArray)]
theorem bless_list : ∀ a b : List UInt8, Op.bytesLess a b = decide (Lib.compareBytes a b < 0)
  | [], [] => rfl
  | [], _ :: _ => rfl
  | _ :: _, [] => rfl
  | a :: x, b :: y => by
    have ih := bless_list x y
    unfold Op.bytesLess Lib.compareBytes
    by_cases h : a < b
    · rw [if_pos h, decide_eq_true h]
      rfl
    · rw [if_neg h, decide_eq_false h, Bool.false_or]
      by_cases h2 : b < a
      · rw [if_pos h2, (beq_eq_false_iff_ne.2 (fun e => by rw [e] at h2; exact h (e ▸ h2)) : (a == b) = false)]
        rfl
      · have e : a = b := UInt8.le_antisymm (UInt8.not_lt.1 h2) (UInt8.not_lt.1 h)
        rw [if_neg h2, ih, e]
        simp
theorem toList_data (s : ByteArray) : s.toList = s.data.toList := by
  exact ByteArray.toList_eq s
theorem bless (s t : ByteArray) : Op.bytesLess s.toList t.toList = decide (cmpB s t < 0) := by
  rw [toList_data, toList_data]
  exact bless_list _ _
abbrev fo_tx : List ByteArray := [(⟨#[]⟩ : ByteArray), (⟨#[120]⟩ : ByteArray), (⟨#[120, 121]⟩ : ByteArray), (⟨#[120, 121, 122]⟩ : ByteArray), (⟨#[120, 122]⟩ : ByteArray), (⟨#[121]⟩ : ByteArray), (⟨#[121, 121]⟩ : ByteArray)]
theorem fo_tmod (x h : Int) (h0 : 0 ≤ h) : -(h + 1) < x.tmod (h + 1) := by
  have := Int.tmod_lt_of_pos (-x) (b := h + 1) (by omega)
  rw [Int.neg_tmod] at this
  omega
theorem fo_within (x h : Int) (h0 : 0 ≤ h) (h1 : h ≤ 1000) : broadsidebook_Within.f x 0 h = some (x % (h + 1)) := by
  have e1 : wrap64 (wrap64 (h - 0) + 1) = h + 1 := by unfold wrap64; omega
  have ha := Int.tmod_lt_of_pos x (b := h + 1) (by omega)
  have hb := fo_tmod x h h0
  unfold broadsidebook_Within.f
  rw [e1, if_neg (by omega)]
  have em : x % (h + 1) = if x.tmod (h + 1) < 0 then x.tmod (h + 1) + h + 1 else x.tmod (h + 1) := by
    have hd := Int.tmod_add_mul_tdiv x (h + 1)
    split
    · rename_i hn
      have : x = (x.tmod (h + 1) + h + 1) + (h + 1) * (x.tdiv (h + 1) - 1) := by rw [Int.mul_sub]; omega
      rw [this, Int.add_mul_emod_self_left]
      rw [← this]
      exact Int.emod_eq_of_lt (by omega) (by omega)
    · rename_i hn
      have : x = x.tmod (h + 1) + (h + 1) * x.tdiv (h + 1) := by omega
      conv => lhs; rw [this, Int.add_mul_emod_self_left]
      exact Int.emod_eq_of_lt (by omega) (by omega)
  rw [em]
  split
  · congr 1; unfold wrap64; omega
  · congr 1; unfold wrap64; omega
def numV (n : Int) : S23 := ⟨false, n, ⟨#[]⟩⟩
def txtV (s : ByteArray) : S23 := ⟨true, 0, s⟩
def smpV : List S23 := [numV 0, numV 1, numV 2, numV 3, numV 4, numV 5, numV 6, numV 7, numV 8, numV 9] ++ fo_tx.map txtV
theorem vals_smp (n : Int) : ∃ v : S23, broadsidekeep_Value.f n = some (v.f0, v.f1, v.f2) ∧ v ∈ smpV := by
  unfold broadsidekeep_Value.f
  rw [fo_within _ 9 (by omega) (by omega), fo_within _ 6 (by omega) (by omega)]
  generalize wrap64 (Int.tdiv n 2) = x
  by_cases h : Go.bits .and .i64 n 1 = 0
  · rw [if_pos h]
    refine ⟨numV (x % (9 + 1)), rfl, List.mem_append.2 (.inl ?_)⟩
    have hr : x % (9 + 1) = 0 ∨ x % (9 + 1) = 1 ∨ x % (9 + 1) = 2 ∨ x % (9 + 1) = 3 ∨ x % (9 + 1) = 4 ∨ x % (9 + 1) = 5 ∨ x % (9 + 1) = 6 ∨ x % (9 + 1) = 7 ∨ x % (9 + 1) = 8 ∨ x % (9 + 1) = 9 := by omega
    rcases hr with h | h | h | h | h | h | h | h | h | h <;> rw [h] <;> simp
  · rw [if_neg h]
    unfold broadsidekeep_texts.f
    simp only [Option.bind_some]
    rw [if_pos (by omega), if_pos (by simp; omega)]
    refine ⟨txtV _, rfl, List.mem_append.2 (.inr (List.mem_map.2 ⟨_, ?_, rfl⟩))⟩
    have hr : x % (6 + 1) = 0 ∨ x % (6 + 1) = 1 ∨ x % (6 + 1) = 2 ∨ x % (6 + 1) = 3 ∨ x % (6 + 1) = 4 ∨ x % (6 + 1) = 5 ∨ x % (6 + 1) = 6 := by omega
    rcases hr with h | h | h | h | h | h | h <;> rw [h] <;> simp [rdOf, fo_tx]
theorem pick_some (l : List Int) (a : Int) (h : 0 ≤ a) : ∃ r, broadsidekeep_pick.f l a = some r := by
  unfold broadsidekeep_pick.f
  split
  · exact ⟨_, rfl⟩
  · rename_i hl
    have h1 := Int.tmod_nonneg (l.length : Int) h
    have h2 := Int.tmod_lt_of_pos a (b := (l.length : Int)) (by omega)
    rw [if_pos h1, if_pos h2]
    exact ⟨_, rfl⟩
theorem nms_rise : ∀ i, i < 7 → ∀ j, j < i → cmpB (nms.getD j ⟨#[]⟩) (nms.getD i ⟨#[]⟩) < 0 := by
  have hd : ((List.range 7).all fun i => (List.range i).all fun j => decide (cmpB (nms.getD j ⟨#[]⟩) (nms.getD i ⟨#[]⟩) < 0)) = true := by kernel_rfl
  intro i hi j hj
  have := List.all_eq_true.1 (List.all_eq_true.1 hd i (List.mem_range.2 hi)) j (List.mem_range.2 hj)
  simpa using this

theorem rd25 (l : List S25) (i : Nat) : rd_T25 l (i : Int) = l.getD i z25 := by unfold rd_T25; rw [Int.toNat_natCast]
theorem drop25 (l : List S25) (i : Nat) (hi : i < l.length) : l.drop i = l.getD i z25 :: l.drop (i + 1) := by
  rw [List.drop_eq_getElem_cons hi, List.getD_eq_getElem?_getD, List.getElem?_eq_getElem hi]
  rfl
theorem getD_mem25 (l : List S25) (i : Nat) (hi : i < l.length) : l.getD i z25 ∈ l := by
  rw [List.getD_eq_getElem?_getD, List.getElem?_eq_getElem hi]; exact List.getElem_mem hi
theorem wrap_nat (i : Nat) (h : i ≤ 4611686018427387904) : wrap64 ((i : Int) + 1) = ((i + 1 : Nat) : Int) := by unfold wrap64; omega
def getA : List S25 → ByteArray → Option S23
  | [], _ => none
  | x :: t, s => if x.f0.toList = s.toList then some x.f1 else getA t s
abbrev getR (o : Option S23) : Bool × Int × ByteArray × Bool := match o with | some v => (v.f0, v.f1, v.f2, true) | none => (false, 0, (⟨#[]⟩ : ByteArray), false)
theorem get_l0 (l : List S25) (s : ByteArray) (hl : l.length ≤ 1000) : ∀ (d i k : Nat), i + d = l.length → d + 1 ≤ k →
    tuple_Get.l0 k s l l.length i = some (getR (getA (l.drop i) s))
  | 0, i, k, h, hk => by
    obtain ⟨k, rfl⟩ : ∃ q, k = q + 1 := ⟨k - 1, by omega⟩
    rw [tuple_Get.l0, if_neg (by omega), List.drop_of_length_le (by omega)]
    rfl
  | d + 1, i, k, h, hk => by
    obtain ⟨k, rfl⟩ : ∃ q, k = q + 1 := ⟨k - 1, by omega⟩
    rw [tuple_Get.l0, if_pos (by omega), if_pos (by omega), if_pos (by omega), rd25, drop25 l i (by omega), getA]
    by_cases hc : (l.getD i z25).f0.toList = s.toList
    · rw [if_pos hc, if_pos hc]
    · rw [if_neg hc, if_neg hc, wrap_nat i (by omega)]
      exact get_l0 l s hl d (i + 1) k (by omega) (by omega)
theorem get_char (l : List S25) (s : ByteArray) (hl : l.length ≤ 9) (k : Nat) (hk : 10 ≤ k) : tuple_Get.f k l s = some (getR (getA l s)) :=
  get_l0 l s (by omega) l.length 0 k (by omega) (by omega)
theorem getA_none {l : List S25} {s : ByteArray} : getA l s = none ↔ ∀ x ∈ l, x.f0 ≠ s := by
  induction l with
  | nil => simp [getA]
  | cons x t ih =>
    unfold getA
    split
    · rename_i h
      simp only [reduceCtorEq, false_iff]
      exact fun h2 => h2 x (by simp) (toList_inj h)
    · rename_i h
      rw [ih]
      constructor
      · intro h2 y hy
        rcases List.mem_cons.1 hy with rfl | hy
        · exact fun e => h (by rw [e])
        · exact h2 y hy
      · exact fun h2 y hy => h2 y (List.mem_cons_of_mem _ hy)
theorem getA_some {l : List S25} (hU : Up cmpB nm25 l) : ∀ x ∈ l, getA l x.f0 = some x.f1 := by
  induction l with
  | nil => intro x hx; simp at hx
  | cons y t ih =>
    intro x hx
    unfold getA
    rcases List.mem_cons.1 hx with rfl | hx
    · rw [if_pos rfl]
    · rw [if_neg ?_]
      · exact ih hU.tail x hx
      · intro e
        have := hU.head x hx
        rw [show nm25 y = nm25 x from toList_inj e, cmpB_self] at this
        omega
/-- The law's tuples: names of nms alone, rising, small values. -/
structure TN (r : List S25) : Prop where
  up : Up cmpB nm25 r
  len : r.length ≤ 5
  name : ∀ x ∈ r, x.f0 ∈ nms
  val : ∀ x ∈ r, x.f1 ∈ smpV
structure TP (i : Nat) (r : List S25) : Prop extends TN r where
  ahead : ∀ x ∈ r, ∃ j, j < i ∧ x.f0 = nms.getD j ⟨#[]⟩
theorem tup_step (k : Nat) (x3 : List S25) (a b : List Int) (i : Nat) (h : i < 7) :
    ∃ c : Bool, (c = true → (x3.length : Int) < 5) ∧ broadsidekeep_Tuple_Tuple.l0 (k + 1) x3 nms (nms.length : Int) i a b = broadsidekeep_Tuple_Tuple.j1 k x3 i (rdOf ByteArray.empty nms i) nms (nms.length : Int) i c a b := by
  have h7 : (nms.length : Int) = 7 := rfl
  rw [broadsidekeep_Tuple_Tuple.l0, if_pos (by omega), if_pos (by omega), if_pos (by omega)]
  split
  · split
    · exact ⟨_, fun h => by simpa using h, rfl⟩
    · exact ⟨false, fun h => by simp at h, rfl⟩
  · exact ⟨false, fun h => by simp at h, rfl⟩
theorem tup_next (k : Nat) (x3 : List S25) (a b : List Int) (i : Nat) (c : Bool) (hi : i < 7) (hI : TP i x3) (hc : c = true → (x3.length : Int) < 5) :
    ∃ x3' : List S25, TP (i + 1) x3' ∧ broadsidekeep_Tuple_Tuple.j1 (k + 1) x3 i (rdOf ByteArray.empty nms i) nms (nms.length : Int) i c a b = broadsidekeep_Tuple_Tuple.l0 k x3' nms (nms.length : Int) (wrap64 ((i : Int) + 1)) a b := by
  rw [broadsidekeep_Tuple_Tuple.j1]
  cases c
  · exact ⟨x3, ⟨hI.toTN, fun x hx => by obtain ⟨j, h1, h2⟩ := hI.ahead x hx; exact ⟨j, by omega, h2⟩⟩, by rw [if_neg (by simp)]⟩
  · have h5 := hc rfl
    obtain ⟨t, ht⟩ := pick_some b i (by omega)
    obtain ⟨q, hq, hqm⟩ := vals_smp t
    rw [if_pos rfl, ht]
    simp only [Option.bind_some]
    rw [hq]
    simp only [Option.bind_some]
    rw [if_pos (by omega)]
    have hnm : rdOf ByteArray.empty nms (i : Int) = nms.getD i ⟨#[]⟩ := by unfold rdOf; rw [Int.toNat_natCast]; rfl
    rw [hnm]
    have hmem : nms.getD i ⟨#[]⟩ ∈ nms := by
      rw [List.getD_eq_getElem?_getD, List.getElem?_eq_getElem (show i < nms.length from hi)]
      exact List.getElem_mem _
    refine ⟨_, ⟨{ up := ?_, len := by simp; omega, name := fun x hx => ?_, val := fun x hx => ?_ }, fun x hx => ?_⟩, rfl⟩
    · unfold Up
      rw [List.pairwise_append]
      refine ⟨hI.up, by simp, fun x hx y hy => ?_⟩
      simp only [List.mem_singleton] at hy
      subst hy
      obtain ⟨j, h1, h2⟩ := hI.ahead x hx
      show cmpB x.f0 _ < 0
      rw [h2]
      exact nms_rise i hi j h1
    · rcases List.mem_append.1 hx with h | h
      · exact hI.name x h
      · simp only [List.mem_singleton] at h
        subst h
        exact hmem
    · rcases List.mem_append.1 hx with h | h
      · exact hI.val x h
      · simp only [List.mem_singleton] at h
        subst h
        exact hqm
    · rcases List.mem_append.1 hx with h | h
      · obtain ⟨j, h1, h2⟩ := hI.ahead x h
        exact ⟨j, by omega, h2⟩
      · simp only [List.mem_singleton] at h
        subst h
        exact ⟨i, by omega, rfl⟩
theorem tup_all (a b : List Int) : ∀ (d i k : Nat) (x3 : List S25), i + d = 7 → 2 * d + 1 ≤ k → TP i x3 → ∃ r, broadsidekeep_Tuple_Tuple.l0 k x3 nms (nms.length : Int) i a b = some r ∧ TN r
  | 0, i, k, x3, h, hk, hI => by
    obtain ⟨k, rfl⟩ : ∃ q, k = q + 1 := ⟨k - 1, by omega⟩
    have h7 : (nms.length : Int) = 7 := rfl
    exact ⟨x3, by rw [broadsidekeep_Tuple_Tuple.l0, if_neg (by omega)], hI.toTN⟩
  | d + 1, i, k, x3, h, hk, hI => by
    obtain ⟨k, rfl⟩ : ∃ q, k = q + 1 + 1 := ⟨k - 2, by omega⟩
    obtain ⟨c, hc, e1⟩ := tup_step (k + 1) x3 a b i (by omega)
    obtain ⟨y, hy, e2⟩ := tup_next k x3 a b i c (by omega) hI hc
    rw [e1, e2, wrap_nat i (by omega)]
    exact tup_all a b d (i + 1) k y (by omega) (by omega) hy
theorem tup_nice (a b : List Int) (k : Nat) (hk : 20 ≤ k) : ∃ r, broadsidekeep_Tuple_Tuple.f k a b = some r ∧ TN r :=
  tup_all a b 7 0 k [] rfl (by omega) ⟨⟨Up.nil, Nat.zero_le _, fun x hx => by simp at hx, fun x hx => by simp at hx⟩, fun x hx => by simp at hx⟩
theorem name_ok : ∀ s ∈ nms, tuple_Name.f 10 s = some true := by
  have h1 : (nms.all fun s => tuple_Name.f 10 s == some true) = true := by kernel_rfl
  exact fun s hs => by simpa using List.all_eq_true.1 h1 s hs
theorem val_ok : ∀ v ∈ smpV, value_Right.f v.f0 v.f1 v.f2 = some true := by
  have h1 : (smpV.all fun v => value_Right.f v.f0 v.f1 v.f2 == some true) = true := by kernel_rfl
  exact fun s hs => by simpa using List.all_eq_true.1 h1 s hs
theorem right_l0 (l : List S25) (hU : Up cmpB nm25 l) (hn : ∀ x ∈ l, x.f0 ∈ nms) (hv : ∀ x ∈ l, x.f1 ∈ smpV) (hl : l.length ≤ 1000) : ∀ (d i k : Nat), i + d = l.length → d + 11 ≤ k →
    tuple_Right.l0 k l l l.length i = some (decide ((l.length : Int) ≤ 5))
  | 0, i, k, h, hk => by
    obtain ⟨k, rfl⟩ : ∃ q, k = q + 1 := ⟨k - 1, by omega⟩
    rw [tuple_Right.l0, if_neg (by omega)]
  | d + 1, i, k, h, hk => by
    obtain ⟨k, rfl⟩ : ∃ q, k = q + 1 := ⟨k - 1, by omega⟩
    have hm := getD_mem25 l i (by omega)
    rw [tuple_Right.l0, if_pos (by omega), if_pos (by omega), if_pos (by omega), rd25, up_fuel (g := fun k => tuple_Name.f k (l.getD i z25).f0) (fun k => tuple_Name.mono _ k) (name_ok _ (hn _ hm)) k (by omega)]
    simp only [Option.bind_some, if_true]
    rw [val_ok _ (hv _ hm)]
    simp only [Option.bind_some, if_true]
    have ih := right_l0 l hU hn hv hl d (i + 1) k (by omega) (by omega)
    rw [wrap_nat i (by omega)]
    split
    · rename_i h0
      have e1 : wrap64 ((i : Int) - 1) = ((i - 1 : Nat) : Int) := by unfold wrap64; omega
      rw [e1, if_pos (by omega), if_pos (by omega), rd25, bless, if_pos ?_]
      · exact ih
      · have := List.pairwise_iff_getElem.1 hU (i - 1) i (by omega) (by omega) (by omega)
        rw [decide_eq_true_eq, List.getD_eq_getElem?_getD, List.getElem?_eq_getElem (show i - 1 < l.length by omega), List.getD_eq_getElem?_getD, List.getElem?_eq_getElem (show i < l.length by omega)]
        exact this
    · exact ih
theorem right_char {l : List S25} (h : TN l) (k : Nat) (hk : 20 ≤ k) : tuple_Right.f k l = some true := by
  have := right_l0 l h.up h.name h.val (by have := h.len; omega) l.length 0 k (by omega) (by have := h.len; omega)
  unfold tuple_Right.f
  rw [show ((0 : Nat) : Int) = 0 from rfl] at this
  rw [this, decide_eq_true (by have := h.len; omega)]
def eqB25 (x y : S25) : Bool := !((!(x.f0.toList == y.f0.toList)) || ((!(x.f1.f0 == y.f1.f0)) || ((!(x.f1.f1 == y.f1.f1)) || (!(x.f1.f2.toList == y.f1.f2.toList)))))
theorem eqB25_iff (x y : S25) : eqB25 x y = true ↔ x = y := by
  obtain ⟨a, b, c, d⟩ := x
  obtain ⟨a', b', c', d'⟩ := y
  unfold eqB25
  simp only [Bool.not_eq_true', Bool.or_eq_false_iff, Bool.not_eq_false', beq_iff_eq, S25.mk.injEq, S23.mk.injEq]
  constructor
  · rintro ⟨h1, h2, h3, h4⟩; exact ⟨toList_inj h1, h2, h3, toList_inj h4⟩
  · rintro ⟨h1, h2, h3, h4⟩; exact ⟨by rw [h1], h2, h3, by rw [h4]⟩
theorem same_l0 (l m : List S25) (hlm : l.length = m.length) (hl : l.length ≤ 1000) : ∀ (d i k : Nat), i + d = l.length → d + 1 ≤ k →
    ∃ b, api_Attr_32.l0 k l m l.length i = some b ∧ (b = true ↔ l.drop i = m.drop i)
  | 0, i, k, h, hk => by
    obtain ⟨k, rfl⟩ : ∃ q, k = q + 1 := ⟨k - 1, by omega⟩
    refine ⟨true, by rw [api_Attr_32.l0, if_neg (by omega)], ?_⟩
    rw [List.drop_of_length_le (by omega), List.drop_of_length_le (by omega)]
    simp
  | d + 1, i, k, h, hk => by
    obtain ⟨k, rfl⟩ : ∃ q, k = q + 1 := ⟨k - 1, by omega⟩
    obtain ⟨b, hb, hi⟩ := same_l0 l m hlm hl d (i + 1) k (by omega) (by omega)
    rw [api_Attr_32.l0, if_pos (by omega), if_pos (by omega), if_pos (by omega), if_pos (by omega), rd25, rd25, drop25 l i (by omega), drop25 m i (by omega), wrap_nat i (by omega)]
    generalize l.getD i z25 = x
    generalize m.getD i z25 = y
    by_cases e : x = y
    · have he := (eqB25_iff x y).2 e
      refine ⟨b, ?_, by rw [hi, e]; simp⟩
      rw [if_neg (by unfold eqB25 at he; simpa using he)]
      exact hb
    · have he : eqB25 x y = false := by cases h2 : eqB25 x y; rfl; exact absurd ((eqB25_iff x y).1 h2) e
      refine ⟨false, ?_, by simp [e]⟩
      rw [if_pos (by unfold eqB25 at he; rw [Bool.not_eq_false'] at he; exact he)]
theorem same_char (l m : List S25) (hl : l.length ≤ 100) (k : Nat) (hk : 101 ≤ k) : ∃ b, tuple_Same.f k l m = some b ∧ (b = true ↔ l = m) := by
  unfold tuple_Same.f api_Attr_32.f
  by_cases h : l.length = m.length
  · rw [if_pos (by omega)]
    obtain ⟨b, hb, hi⟩ := same_l0 l m h (by omega) l.length 0 k (by omega) (by omega)
    rw [show ((0 : Nat) : Int) = 0 from rfl] at hb
    rw [hb]
    exact ⟨b, rfl, by simpa using hi⟩
  · rw [if_neg (by omega)]
    exact ⟨false, rfl, by simp; intro e; exact h (by rw [e])⟩
theorem same_refl (l : List S25) (hl : l.length ≤ 100) (k : Nat) (hk : 101 ≤ k) : tuple_Same.f k l l = some true := by
  obtain ⟨b, hb, hi⟩ := same_char l l hl k hk
  rw [hb, hi.2 rfl]
theorem same2_l0 (l m : List S25) (hlm : l.length = m.length) (hl : l.length ≤ 1000) : ∀ (d i k : Nat), i + d = l.length → d + 1 ≤ k →
    ∃ b, api_Attr_20.l0 k l m i = some b ∧ (b = true ↔ l.drop i = m.drop i)
  | 0, i, k, h, hk => by
    obtain ⟨k, rfl⟩ : ∃ q, k = q + 1 := ⟨k - 1, by omega⟩
    refine ⟨true, by rw [api_Attr_20.l0, if_neg (by omega)], ?_⟩
    rw [List.drop_of_length_le (by omega), List.drop_of_length_le (by omega)]
    simp
  | d + 1, i, k, h, hk => by
    obtain ⟨k, rfl⟩ : ∃ q, k = q + 1 := ⟨k - 1, by omega⟩
    obtain ⟨b, hb, hi⟩ := same2_l0 l m hlm hl d (i + 1) k (by omega) (by omega)
    rw [api_Attr_20.l0, if_pos (by omega), if_pos (by omega), if_pos (by omega), rd25, rd25, drop25 l i (by omega), drop25 m i (by omega), wrap_nat i (by omega)]
    generalize l.getD i z25 = x
    generalize m.getD i z25 = y
    by_cases e : x = y
    · have he := (eqB25_iff x y).2 e
      refine ⟨b, ?_, by rw [hi, e]; simp⟩
      rw [if_neg (by unfold eqB25 at he; simpa using he)]
      exact hb
    · have he : eqB25 x y = false := by cases h2 : eqB25 x y; rfl; exact absurd ((eqB25_iff x y).1 h2) e
      refine ⟨false, ?_, by simp [e]⟩
      rw [if_pos (by unfold eqB25 at he; rw [Bool.not_eq_false'] at he; exact he)]
theorem same2_char (l m : List S25) (hl : l.length ≤ 100) (k : Nat) (hk : 101 ≤ k) : ∃ b, api_Attr_20.f k l m = some b ∧ (b = true ↔ l = m) := by
  unfold api_Attr_20.f
  by_cases h : l.length = m.length
  · rw [if_pos (by omega)]
    obtain ⟨b, hb, hi⟩ := same2_l0 l m h (by omega) l.length 0 k (by omega) (by omega)
    rw [show ((0 : Nat) : Int) = 0 from rfl] at hb
    rw [hb]
    exact ⟨b, rfl, by simpa using hi⟩
  · rw [if_neg (by omega)]
    exact ⟨false, rfl, by simp; intro e; exact h (by rw [e])⟩
theorem put_f (l : List S25) (hU : Up cmpB nm25 l) (hl : l.length ≤ 1000) (s : ByteArray) (v : S23) : tuple_Put.f l s v.f0 v.f1 v.f2 = some (putA l ⟨s, v⟩) := by
  unfold tuple_Put.f
  rw [if_pos hl, if_pos (upB_iff.2 hU)]
theorem putA_mem {l : List S25} (hU : Up cmpB nm25 l) (x z : S25) : z ∈ putA l x ↔ z = x ∨ (z ∈ l ∧ z.f0 ≠ x.f0) := put_mem cmpB_cmp x l hU z
theorem putA_up {l : List S25} (hU : Up cmpB nm25 l) (x : S25) : Up cmpB nm25 (putA l x) := put_up cmpB_cmp x l hU
theorem putA_le (l : List S25) (x : S25) : (putA l x).length ≤ l.length + 1 := put_len_le l x l
theorem put_twice {l : List S25} (hU : Up cmpB nm25 l) (s : ByteArray) (v u : S23) : putA (putA l ⟨s, v⟩) ⟨s, u⟩ = putA l ⟨s, u⟩ := by
  refine up_ext cmpB_cmp (putA_up (putA_up hU _) _) (putA_up hU _) (fun z => ?_)
  rw [putA_mem (putA_up hU _), putA_mem hU, putA_mem hU]
  constructor
  · rintro (h | ⟨h | ⟨h1, h2⟩, h3⟩)
    · exact .inl h
    · rw [h] at h3; exact absurd rfl h3
    · exact .inr ⟨h1, h3⟩
  · rintro (h | ⟨h1, h2⟩)
    · exact .inl h
    · exact .inr ⟨.inr ⟨h1, h2⟩, h2⟩
theorem putA_len {l : List S25} (hU : Up cmpB nm25 l) (s : ByteArray) (v : S23) : (putA l ⟨s, v⟩).length = l.length + (if (getA l s).isSome = true then 0 else 1) := by
  unfold putA
  rw [put_len cmpB_cmp _ l hU]
  have : (got cmpB nm25 (nm25 ⟨s, v⟩) l).isSome = (getA l s).isSome := by
    cases h1 : getA l s with
    | none =>
      rw [(got_none cmpB_cmp).2 (getA_none.1 h1)]; rfl
    | some q =>
      cases h2 : got cmpB nm25 (nm25 ⟨s, v⟩) l with
      | none =>
        have := getA_none.2 ((got_none cmpB_cmp).1 h2)
        rw [show nm25 (⟨s, v⟩ : S25) = s from rfl] at this
        rw [this] at h1; cases h1
      | some y => rfl
  rw [this]
theorem getA_put {l : List S25} (hU : Up cmpB nm25 l) (s : ByteArray) (v : S23) : getA (putA l ⟨s, v⟩) s = some v :=
  getA_some (putA_up hU _) ⟨s, v⟩ ((putA_mem hU _ _).2 (.inl rfl))
theorem getA_put_ne {l : List S25} (hU : Up cmpB nm25 l) (s : ByteArray) (v : S23) (x : S25) (hx : x ∈ l) (hne : x.f0 ≠ s) : getA (putA l ⟨s, v⟩) x.f0 = some x.f1 :=
  getA_some (putA_up hU _) x ((putA_mem hU _ _).2 (.inr ⟨hx, hne⟩))
theorem say_nil (k : Nat) (hk : 2 ≤ k) : tuple_Say.f k [] = some ⟨#[]⟩ := by
  obtain ⟨k, rfl⟩ : ∃ q, k = q + 1 := ⟨k - 1, by omega⟩
  rfl
end Go.Proofs.YtgdieejhglhkcaaGreatDoor.MTup
