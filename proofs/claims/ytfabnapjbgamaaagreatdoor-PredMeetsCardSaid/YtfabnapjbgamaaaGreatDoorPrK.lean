import Derived.Test.YtfabnapjbgamaaaGreatDoorPrJ
import Derived.Test.YtfabnapjbgamaaaGreatDoorPrD
import Derived.Test.YtfabnapjbgamaaaGreatDoorPrH
import Derived.Test.YtfabnapjbgamaaaGreatDoorMx7
namespace Go.Proofs.YtfabnapjbgamaaaGreatDoor.MPred
open Go.RowKit Go.Lib Go.Proofs.YtfabnapjbgamaaaGreatDoorW.PrintWords Go.Proofs.YtfabnapjbgamaaaGreatDoorW.PrintLast Go.Proofs.YtfabnapjbgamaaaGreatDoorW.PrintMore
set_option linter.unusedVariables false
set_option linter.unusedSimpArgs false
abbrev aa : ByteArray := ⟨#[97]⟩
def rng (lo hi : Int) : S23 := ⟨aa, 1, lo, hi, ⟨#[]⟩⟩
def tcs : List S23 := (fo_tx.map fun t => (⟨aa, 2, 0, 0, t⟩ : S23)) ++ (fo_tx.map fun t => (⟨aa, 3, 0, 0, t⟩ : S23))
theorem con_vals (n : Int) : ∃ c : S23, broadsidekeep_Constraint.f aa n = some (c.f0, c.f1, c.f2, c.f3, c.f4) ∧ ((∃ lo hi, 0 ≤ lo ∧ lo ≤ 9 ∧ lo ≤ hi ∧ hi ≤ 18 ∧ c = rng lo hi) ∨ c ∈ tcs) := by
  unfold broadsidekeep_Constraint.f
  rw [fo_within n 3 (by omega) (by omega), fo_within _ 9 (by omega) (by omega), fo_within _ 9 (by omega) (by omega), fo_within _ 6 (by omega) (by omega)]
  generalize wrap64 (Int.tdiv n 4) = x
  generalize wrap64 (Int.tdiv n 40) = y
  simp only [Option.bind_some]
  by_cases ht : n % (3 + 1) = 0 ∨ n % (3 + 1) = 1
  · rw [if_pos ht]
    refine ⟨rng (x % (9 + 1)) (x % (9 + 1) + y % (9 + 1)), rfl, .inl ⟨_, _, ?_, ?_, ?_, ?_, rfl⟩⟩ <;> omega
  · rw [if_neg ht]
    have hr : x % (6 + 1) = 0 ∨ x % (6 + 1) = 1 ∨ x % (6 + 1) = 2 ∨ x % (6 + 1) = 3 ∨ x % (6 + 1) = 4 ∨ x % (6 + 1) = 5 ∨ x % (6 + 1) = 6 := by omega
    have hm : rdOf ByteArray.empty fo_tx (x % (6 + 1)) ∈ fo_tx := by
      rcases hr with h | h | h | h | h | h | h <;> rw [h] <;> simp [rdOf, fo_tx]
    generalize rdOf ByteArray.empty fo_tx (x % (6 + 1)) = t at hm
    by_cases h2 : n % (3 + 1) = 2
    · rw [if_pos h2]
      exact ⟨⟨aa, 2, 0, 0, t⟩, rfl, .inr (List.mem_append.2 (.inl (List.mem_map.2 ⟨t, hm, rfl⟩)))⟩
    · rw [if_neg h2]
      exact ⟨⟨aa, 3, 0, 0, t⟩, rfl, .inr (List.mem_append.2 (.inr (List.mem_map.2 ⟨t, hm, rfl⟩)))⟩
theorem tcs_kind {c : S23} (h : c ∈ tcs) : c.f0 = aa ∧ (c.f1 = 2 ∨ c.f1 = 3) := by
  rcases List.mem_append.1 h with h | h <;> obtain ⟨t, _, rfl⟩ := List.mem_map.1 h
  · exact ⟨rfl, .inl rfl⟩
  · exact ⟨rfl, .inr rfl⟩
theorem right_rng (lo hi : Int) (h : lo ≤ hi) : pred_RightOne.f 10 (rng lo hi).f0 (rng lo hi).f1 (rng lo hi).f2 (rng lo hi).f3 (rng lo hi).f4 = some true := by
  have hn : tuple_Name.f 10 aa = some true := by kernel_rfl
  unfold pred_RightOne.f
  show (tuple_Name.f 10 aa).bind _ = _
  rw [hn]
  simp [rng, h]
theorem right_tcs {c : S23} (h : c ∈ tcs) : pred_RightOne.f 10 c.f0 c.f1 c.f2 c.f3 c.f4 = some true := by
  have hd : (tcs.all fun c => pred_RightOne.f 10 c.f0 c.f1 c.f2 c.f3 c.f4 == some true) = true := by kernel_rfl
  simpa using List.all_eq_true.1 hd c h
theorem value_vals (n : Int) : ∃ v : S40, broadsidekeep_Value.f n = some (v.f0, v.f1, v.f2) := by
  unfold broadsidekeep_Value.f
  rw [fo_within _ 9 (by omega) (by omega), fo_within _ 6 (by omega) (by omega)]
  by_cases h : Go.bits .and .i64 n 1 = 0
  · rw [if_pos h]
    exact ⟨⟨_, _, _⟩, rfl⟩
  · rw [if_neg h]
    unfold broadsidekeep_texts.f
    simp only [Option.bind_some]
    rw [if_pos (by omega), if_pos (by simp; omega)]
    exact ⟨⟨_, _, _⟩, rfl⟩
def isC (c : S23) : Prop := (∃ lo hi, 0 ≤ lo ∧ lo ≤ 9 ∧ lo ≤ hi ∧ hi ≤ 18 ∧ c = rng lo hi) ∨ c ∈ tcs
def strip (c : S23) : S23 := ⟨aa, c.f1, c.f2, c.f3, c.f4⟩
def okC (c : S23) : Prop := isC (strip c)
theorem isC_name {c : S23} (h : isC c) : c.f0 = aa := by
  rcases h with ⟨_, _, _, _, _, _, rfl⟩ | h
  · rfl
  · exact (tcs_kind h).1
theorem tcs_form {c : S23} (h : c ∈ tcs) : c.f0 = aa ∧ c.f2 = 0 ∧ c.f3 = 0 := by
  rcases List.mem_append.1 h with h | h <;> obtain ⟨t, _, rfl⟩ := List.mem_map.1 h <;> exact ⟨rfl, rfl, rfl⟩
theorem toList_inj {a b : ByteArray} (h : a.toList = b.toList) : a = b := by
  rw [ByteArray.toList_eq, ByteArray.toList_eq] at h
  exact ba_ext h
theorem mem_get {l : List S23} {x : S23} (h : x ∈ l) : ∃ t, t < l.length ∧ l.getD t z23 = x := by
  obtain ⟨t, ht, rfl⟩ := List.getElem_of_mem h
  exact ⟨t, ht, by rw [List.getD_eq_getElem?_getD, List.getElem?_eq_getElem ht]; rfl⟩
theorem get_mem {l : List S23} {t : Nat} (h : t < l.length) : l.getD t z23 ∈ l := by
  rw [List.getD_eq_getElem?_getD, List.getElem?_eq_getElem h]
  exact List.getElem_mem h
theorem rises_inj {l : List S23} (hR : Rises l) {x y : S23} (hx : x ∈ l) (hy : y ∈ l) (h : x.f0 = y.f0) : x = y := by
  obtain ⟨i, hi, rfl⟩ := mem_get hx
  obtain ⟨j, hj, rfl⟩ := mem_get hy
  rcases Nat.lt_trichotomy i j with e | e | e
  · have := hR i j e hj
    rw [h, cmpB_self] at this
    omega
  · rw [e]
  · have := hR j i e hi
    rw [h, cmpB_self] at this
    omega
theorem rises_nil : Rises [] := fun a b _ hb => by simp at hb
theorem rises_tail {c : S23} {l : List S23} (h : Rises (c :: l)) : Rises l := fun a b hab hb => by
  have := h (a + 1) (b + 1) (by omega) (by simpa using hb)
  simpa using this
theorem rises_head {c : S23} {l : List S23} (h : Rises (c :: l)) : ∀ x ∈ l, cmpB c.f0 x.f0 < 0 := fun x hx => by
  obtain ⟨t, ht, rfl⟩ := mem_get hx
  have := h 0 (t + 1) (by omega) (by simpa using ht)
  simpa using this
theorem rises_mk {l : List S23} {c : S23} (h : Rises l) (hc : ∀ x ∈ l, cmpB x.f0 c.f0 < 0) : Rises (l ++ [c]) := fun a b hab hb => by
  have hb' : b < l.length + 1 := by simpa using hb
  have e1 : ∀ t, t < l.length → (l ++ [c]).getD t z23 = l.getD t z23 := fun t ht => by
    rw [List.getD_eq_getElem?_getD, List.getD_eq_getElem?_getD, List.getElem?_append_left ht]
  have e2 : (l ++ [c]).getD l.length z23 = c := by
    rw [List.getD_eq_getElem?_getD, List.getElem?_append_right (Nat.le_refl _)]
    simp
  rw [e1 a (by omega)]
  rcases Nat.lt_or_ge b l.length with h1 | h1
  · rw [e1 b h1]
    exact h a b hab h1
  · obtain rfl : b = l.length := by omega
    rw [e2]
    exact hc _ (get_mem hab)
theorem cnt_end {out : List S23} {s : ByteArray} (h : ∀ x ∈ out, cmpB x.f0 s < 0) : mk.cnt out s = out.length := by
  unfold mk.cnt
  rw [List.countP_eq_length]
  intro x hx
  simpa using h x hx
abbrev nms : List ByteArray := [(⟨#[97]⟩ : ByteArray), (⟨#[98]⟩ : ByteArray), (⟨#[99]⟩ : ByteArray), (⟨#[100]⟩ : ByteArray), (⟨#[101]⟩ : ByteArray), (⟨#[102]⟩ : ByteArray), (⟨#[103]⟩ : ByteArray)]
structure Nice (ns : List ByteArray) (l : List S23) : Prop where
  rises : Rises l
  ok : ∀ c ∈ l, okC c
  len : l.length ≤ 5
  name : ∀ c ∈ l, c.f0 ∈ ns
def nsOk (ns : List ByteArray) : Prop := ∀ s ∈ ns, tuple_Name.f 10 s = some true ∧ s.size ≤ maxLen
theorem nms_ok : nsOk nms := by
  have h1 : (nms.all fun s => tuple_Name.f 10 s == some true) = true := by kernel_rfl
  have h2 : (nms.all fun s => decide (s.size ≤ maxLen)) = true := by kernel_rfl
  exact fun s hs => ⟨by simpa using List.all_eq_true.1 h1 s hs, by simpa using List.all_eq_true.1 h2 s hs⟩
theorem right_ok {c : S23} (h : okC c) (hn : tuple_Name.f 10 c.f0 = some true) : pred_RightOne.f 10 c.f0 c.f1 c.f2 c.f3 c.f4 = some true := by
  have ha : tuple_Name.f 10 aa = some true := by kernel_rfl
  have hs : pred_RightOne.f 10 (strip c).f0 (strip c).f1 (strip c).f2 (strip c).f3 (strip c).f4 = some true := by
    rcases h with ⟨lo, hi, p1, p2, p3, p4, e⟩ | h
    · rw [e]; exact right_rng _ _ p3
    · exact right_tcs h
  unfold pred_RightOne.f at hs ⊢
  rw [hn]
  rw [show tuple_Name.f 10 (strip c).f0 = some true from ha] at hs
  exact hs
theorem l1_ok : ∀ l : List S23, (∀ c ∈ l, okC c) → (∀ c ∈ l, tuple_Name.f 10 c.f0 = some true) → mk.l1 10 l = some true
  | [], _, _ => rfl
  | c :: t, h, hn => by
    rw [mk.l1, right_ok (h c List.mem_cons_self) (hn c List.mem_cons_self)]
    simp only [Option.bind_some, if_true]
    exact l1_ok t (fun x hx => h x (List.mem_cons_of_mem _ hx)) (fun x hx => hn x (List.mem_cons_of_mem _ hx))
theorem rises_ext : ∀ {a b : List S23}, Rises a → Rises b → (∀ x, x ∈ a ↔ x ∈ b) → a = b
  | [], [], _, _, _ => rfl
  | [], y :: t, _, _, h => by have := (h y).2 List.mem_cons_self; cases this
  | x :: s, [], _, _, h => by have := (h x).1 List.mem_cons_self; cases this
  | x :: s, y :: t, ha, hb, h => by
    have e : x = y := by
      rcases List.mem_cons.1 ((h x).1 List.mem_cons_self) with e | h1
      · exact e
      · rcases List.mem_cons.1 ((h y).2 List.mem_cons_self) with e | h2
        · exact e.symm
        · exact absurd (cmpB_trans (rises_head ha y h2) (rises_head hb x h1)) (by rw [cmpB_self]; omega)
    subst e
    have hx1 : x ∉ s := fun hx => by have := rises_head ha x hx; rw [cmpB_self] at this; omega
    have hx2 : x ∉ t := fun hx => by have := rises_head hb x hx; rw [cmpB_self] at this; omega
    rw [rises_ext (rises_tail ha) (rises_tail hb) (fun z => ?_)]
    constructor
    · intro hz
      rcases List.mem_cons.1 ((h z).1 (List.mem_cons_of_mem _ hz)) with e | h1
      · exact absurd (e ▸ hz) hx1
      · exact h1
    · intro hz
      rcases List.mem_cons.1 ((h z).2 (List.mem_cons_of_mem _ hz)) with e | h1
      · exact absurd (e ▸ hz) hx2
      · exact h1
theorem con_any (s : ByteArray) (n : Int) : ∃ c : S23, broadsidekeep_Constraint.f s n = some (s, c.f1, c.f2, c.f3, c.f4) ∧ isC c := by
  obtain ⟨c, h, hc⟩ := con_vals n
  refine ⟨c, ?_, hc⟩
  have e : broadsidekeep_Constraint.f s n = (broadsidekeep_Constraint.f aa n).map (fun r => (s, r.2)) := by
    unfold broadsidekeep_Constraint.f
    rw [fo_within n 3 (by omega) (by omega), fo_within _ 9 (by omega) (by omega), fo_within _ 9 (by omega) (by omega), fo_within _ 6 (by omega) (by omega)]
    simp only [Option.bind_some]
    split
    · rfl
    · rfl
  rw [e, h]
  rfl
theorem pick_some (l : List Int) (a : Int) (h : 0 ≤ a) : ∃ r, broadsidekeep_pick.f l a = some r := by
  unfold broadsidekeep_pick.f
  split
  · exact ⟨_, rfl⟩
  · rename_i hl
    have h1 := Int.tmod_nonneg (l.length : Int) h
    have h2 := Int.tmod_lt_of_pos a (b := (l.length : Int)) (by omega)
    rw [if_pos h1, if_pos h2]
    exact ⟨_, rfl⟩
theorem nms_rise : ∀ i, i < 7 → ∀ j, j < i → cmpB (nms.getD j ⟨#[]⟩) (nms.getD i ⟨#[]⟩) < 0 := by
  have hd : ((List.range 7).all fun i => (List.range i).all fun j => decide (cmpB (nms.getD j ⟨#[]⟩) (nms.getD i ⟨#[]⟩) < 0)) = true := by kernel_rfl
  intro i hi j hj
  have := List.all_eq_true.1 (List.all_eq_true.1 hd i (List.mem_range.2 hi)) j (List.mem_range.2 hj)
  simpa using this
structure PI (i : Nat) (x3 : List S23) : Prop where
  rises : Rises x3
  ok : ∀ c ∈ x3, okC c
  len : x3.length ≤ 5
  name : ∀ c ∈ x3, ∃ j, j < i ∧ c.f0 = nms.getD j ⟨#[]⟩
theorem prd_step (k : Nat) (x3 : List S23) (a b : List Int) (i : Nat) (h : i < 7) :
    ∃ c : Bool, (c = true → (x3.length : Int) < 5) ∧ broadsidekeep_Pred_Pred.l0 (k + 1) x3 nms (nms.length : Int) i a b = broadsidekeep_Pred_Pred.j1 k x3 i (rdOf ByteArray.empty nms i) nms (nms.length : Int) i c a b := by
  have h7 : (nms.length : Int) = 7 := rfl
  rw [broadsidekeep_Pred_Pred.l0, if_pos (by omega), if_pos (by omega), if_pos (by omega)]
  split
  · split
    · exact ⟨_, fun h => by simpa using h, rfl⟩
    · exact ⟨false, fun h => by simp at h, rfl⟩
  · exact ⟨false, fun h => by simp at h, rfl⟩
theorem prd_next (k : Nat) (x3 : List S23) (a b : List Int) (i : Nat) (c : Bool) (hi : i < 7) (hI : PI i x3) (hc : c = true → (x3.length : Int) < 5) :
    ∃ x3' : List S23, PI (i + 1) x3' ∧ broadsidekeep_Pred_Pred.j1 (k + 1) x3 i (rdOf ByteArray.empty nms i) nms (nms.length : Int) i c a b = broadsidekeep_Pred_Pred.l0 k x3' nms (nms.length : Int) (wrap64 ((i : Int) + 1)) a b := by
  rw [broadsidekeep_Pred_Pred.j1]
  cases c
  · exact ⟨x3, { hI with name := fun c hc => by obtain ⟨j, h1, h2⟩ := hI.name c hc; exact ⟨j, by omega, h2⟩ }, by rw [if_neg (by simp)]⟩
  · have h5 := hc rfl
    obtain ⟨t, ht⟩ := pick_some b i (by omega)
    obtain ⟨q, hq, hqc⟩ := con_any (rdOf ByteArray.empty nms i) t
    rw [if_pos rfl, ht]
    simp only [Option.bind_some]
    rw [hq]
    simp only [Option.bind_some]
    rw [if_pos (by omega)]
    have hnm : rdOf ByteArray.empty nms (i : Int) = nms.getD i ⟨#[]⟩ := by unfold rdOf; rw [Int.toNat_natCast]; rfl
    refine ⟨_, { rises := rises_mk hI.rises (fun x hx => ?_), ok := fun x hx => ?_, len := by simp; omega, name := fun x hx => ?_ }, rfl⟩
    · obtain ⟨j, h1, h2⟩ := hI.name x hx
      rw [h2]
      show cmpB _ (rdOf ByteArray.empty nms i) < 0
      rw [hnm]
      exact nms_rise i hi j h1
    · rcases List.mem_append.1 hx with h | h
      · exact hI.ok x h
      · simp only [List.mem_singleton] at h
        subst h
        unfold okC strip
        have := isC_name hqc
        cases q
        simp only at this
        subst this
        exact hqc
    · rcases List.mem_append.1 hx with h | h
      · obtain ⟨j, h1, h2⟩ := hI.name x h
        exact ⟨j, by omega, h2⟩
      · simp only [List.mem_singleton] at h
        subst h
        exact ⟨i, by omega, hnm⟩
theorem prd_all (a b : List Int) : ∀ (d i k : Nat) (x3 : List S23), i + d = 7 → 2 * d + 1 ≤ k → PI i x3 → ∃ r, broadsidekeep_Pred_Pred.l0 k x3 nms (nms.length : Int) i a b = some r ∧ PI 7 r
  | 0, i, k, x3, h, hk, hI => by
    obtain ⟨k, rfl⟩ : ∃ q, k = q + 1 := ⟨k - 1, by omega⟩
    have h7 : (nms.length : Int) = 7 := rfl
    obtain rfl : i = 7 := by omega
    exact ⟨x3, by rw [broadsidekeep_Pred_Pred.l0, if_neg (by omega)], hI⟩
  | d + 1, i, k, x3, h, hk, hI => by
    obtain ⟨k, rfl⟩ : ∃ q, k = q + 1 + 1 := ⟨k - 2, by omega⟩
    obtain ⟨c, hc, e1⟩ := prd_step (k + 1) x3 a b i (by omega)
    obtain ⟨y, hy, e2⟩ := prd_next k x3 a b i c (by omega) hI hc
    rw [e1, e2, show wrap64 ((i : Int) + 1) = ((i + 1 : Nat) : Int) by unfold wrap64; omega]
    exact prd_all a b d (i + 1) k y (by omega) (by omega) hy
theorem pred_nice (a b : List Int) : ∃ r, broadsidekeep_Pred_Pred.f 20 a b = some r ∧ Nice nms r := by
  obtain ⟨r, h, hr⟩ := prd_all a b 7 0 20 [] rfl (by omega) ⟨rises_nil, fun c hc => by simp at hc, Nat.zero_le _, fun c hc => by simp at hc⟩
  refine ⟨r, h, { rises := hr.rises, ok := hr.ok, len := hr.len, name := fun c hc => ?_ }⟩
  obtain ⟨j, h1, h2⟩ := hr.name c hc
  rw [h2, List.getD_eq_getElem?_getD, List.getElem?_eq_getElem (show j < nms.length from h1)]
  exact List.getElem_mem _
theorem bless_list : ∀ a b : List UInt8, Op.bytesLess a b = decide (Lib.compareBytes a b < 0)
  | [], [] => rfl
  | [], _ :: _ => rfl
  | _ :: _, [] => rfl
  | a :: x, b :: y => by
    have ih := bless_list x y
    unfold Op.bytesLess Lib.compareBytes
    by_cases h : a < b
    · rw [if_pos h, decide_eq_true h]
      rfl
    · rw [if_neg h, decide_eq_false h, Bool.false_or]
      by_cases h2 : b < a
      · rw [if_pos h2, (beq_eq_false_iff_ne.2 (fun e => by rw [e] at h2; exact h (e ▸ h2)) : (a == b) = false)]
        rfl
      · have e : a = b := UInt8.le_antisymm (UInt8.not_lt.1 h2) (UInt8.not_lt.1 h)
        rw [if_neg h2, ih, e]
        simp
theorem bless (s t : ByteArray) : Op.bytesLess s.toList t.toList = decide (cmpB s t < 0) := by
  rw [toList_data, toList_data]
  exact bless_list _ _
/-! ### normal forms made anew -/
theorem met_of_mem {out : List S23} (hR : Rises out) {x : S23} (hx : x ∈ out) : mk.met out x.f0 = true ∧ out.getD (mk.cnt out x.f0) z23 = x := by
  obtain ⟨t, ht, rfl⟩ := mem_get hx
  obtain ⟨c1, c2⟩ := rises_cnt hR (out.getD t z23).f0
  have h3 : mk.cnt out (out.getD t z23).f0 ≤ t := by
    rcases Nat.lt_or_ge t (mk.cnt out (out.getD t z23).f0) with h4 | h4
    · have := c1 t h4
      rw [cmpB_self] at this
      omega
    · exact h4
  have h5 := c2 (mk.cnt out (out.getD t z23).f0) (Nat.le_refl _) (by omega)
  rcases Nat.lt_or_ge (mk.cnt out (out.getD t z23).f0) t with h6 | h6
  · exact absurd (hR _ _ h6 ht) h5
  · have e : mk.cnt out (out.getD t z23).f0 = t := by omega
    unfold mk.met
    rw [e, decide_eq_true ht, cmpB_self]
    exact ⟨rfl, rfl⟩
theorem l2_new : ∀ (b out : List S23), Rises out → (∀ y ∈ b, ∀ x ∈ out, x.f0 ≠ y.f0) → b.Pairwise (fun x y => x.f0 ≠ y.f0) → out.length + b.length ≤ 5 →
    ∃ r, mk.l2 out b = some (some r) ∧ Rises r ∧ ∀ x, x ∈ r ↔ x ∈ out ∨ x ∈ b
  | [], out, hR, _, _, _ => ⟨out, by rw [mk.l2], hR, fun x => by simp⟩
  | c :: t, out, hR, hn, hp, hl => by
    have hm : mk.met out c.f0 = false := by
      cases hm : mk.met out c.f0
      · rfl
      · obtain ⟨h1, h2⟩ := met_true hm
        exact absurd h2 (hn c List.mem_cons_self _ (get_mem h1))
    simp only [List.length_cons] at hl
    have hR' := rises_put hR c hm
    have hmem : ∀ x, x ∈ out.take (mk.cnt out c.f0) ++ [c] ++ out.drop (mk.cnt out c.f0) ↔ x ∈ out ∨ x = c := fun x => by
      have := List.take_append_drop (mk.cnt out c.f0) out
      constructor
      · intro h
        rcases List.mem_append.1 h with h | h
        · rcases List.mem_append.1 h with h | h
          · exact .inl (List.mem_of_mem_take h)
          · exact .inr (by simpa using h)
        · exact .inl (List.mem_of_mem_drop h)
      · intro h
        rcases h with h | h
        · rw [← this] at h
          rcases List.mem_append.1 h with h | h
          · exact List.mem_append.2 (.inl (List.mem_append.2 (.inl h)))
          · exact List.mem_append.2 (.inr h)
        · exact List.mem_append.2 (.inl (List.mem_append.2 (.inr (by simp [h]))))
    have hlen : (out.take (mk.cnt out c.f0) ++ [c] ++ out.drop (mk.cnt out c.f0)).length = out.length + 1 := by
      have := mk.cnt_le out c.f0
      simp
      omega
    obtain ⟨h1, h2⟩ := List.pairwise_cons.1 hp
    obtain ⟨r, e1, e2, e3⟩ := l2_new t _ hR' (fun y hy x hx => by
      rcases (hmem x).1 hx with h | h
      · exact hn y (List.mem_cons_of_mem _ hy) x h
      · rw [h]; exact h1 y hy) h2 (by omega)
    refine ⟨r, ?_, e2, fun x => ?_⟩
    · rw [mk.l2, if_neg (by simp [hm]), if_neg (by omega)]
      exact e1
    · rw [e3, hmem, List.mem_cons]
      constructor
      · rintro ((h | h) | h)
        · exact .inl h
        · exact .inr (.inl h)
        · exact .inr (.inr h)
      · rintro (h | h | h)
        · exact .inl (.inl h)
        · exact .inl (.inr h)
        · exact .inr h
theorem okC_form {c : S23} (h : okC c) : (c.f1 = 1 ∧ c.f2 ≤ c.f3) ∨ c.f1 = 2 ∨ c.f1 = 3 := by
  rcases h with ⟨lo, hi, _, _, p3, _, e⟩ | h
  · have e1 := congrArg S23.f1 e; have e2 := congrArg S23.f2 e; have e3 := congrArg S23.f3 e
    simp only [strip, rng] at e1 e2 e3
    exact .inl ⟨e1, by omega⟩
  · exact .inr (tcs_kind h).2
theorem preB_self (s : ByteArray) : preB s s = true := by
  unfold preB
  rw [show s.extract 0 s.size = s from ByteArray.extract_zero_size]
  simp
theorem holds_g (a0 : ByteArray) (a1 a2 a3 : Int) (a4 : ByteArray) (x0 : Bool) (x1 : Int) (x2 : ByteArray) : pred_Holds.f a0 a1 a2 a3 a4 x0 x1 x2 = some (H1 ⟨a0, a1, a2, a3, a4⟩ ⟨x0, x1, x2⟩) := holds_f ⟨a0, a1, a2, a3, a4⟩ ⟨x0, x1, x2⟩
theorem both_self {c : S23} (h : okC c) : mk.both c c = some (c, true) := by
  unfold mk.both pred_Both.f pred_Both.core pred_Both.fin
  rcases okC_form h with ⟨h1, h2⟩ | h1 | h1
  · rw [if_neg (by omega), if_pos h1, if_pos h1, if_neg (by unfold mx mn; split <;> split <;> omega)]
    have e1 : mx c.f2 c.f2 = c.f2 := by unfold mx; split <;> rfl
    have e2 : mn c.f3 c.f3 = c.f3 := by unfold mn; split <;> rfl
    rw [e1, e2]
    rfl
  · rw [if_neg (by omega), if_neg (by omega), if_neg (by omega), if_pos h1, holds_g]
    simp [H1, h1]
    cases c; simp_all
  · rw [if_neg (by omega), if_neg (by omega), if_pos h1, if_neg (by omega), holds_g]
    simp [H1, h1, preB_self]
    cases c; simp_all
theorem l2_self : ∀ (b out : List S23), Rises out → (∀ y ∈ b, y ∈ out ∧ okC y) → mk.l2 out b = some (some out)
  | [], out, hR, _ => by rw [mk.l2]
  | c :: t, out, hR, h => by
    obtain ⟨h1, h2⟩ := h c List.mem_cons_self
    obtain ⟨m1, m2⟩ := met_of_mem hR h1
    rw [mk.l2, if_pos m1, m2, both_self h2]
    simp only [Option.bind_some, if_true]
    have e : out.set (mk.cnt out c.f0) c = out := by
      obtain ⟨hk, _⟩ := met_true m1
      apply List.ext_getElem (by simp)
      intro i hi hi2
      rw [List.getElem_set]
      split
      · rename_i e
        rw [List.getD_eq_getElem?_getD, List.getElem?_eq_getElem hk] at m2
        subst e
        simpa using m2.symm
      · rfl
    rw [e]
    exact l2_self t out hR (fun y hy => h y (List.mem_cons_of_mem _ hy))
theorem l2_append : ∀ (a b out : List S23), mk.l2 out (a ++ b) = (mk.l2 out a).bind (fun r => match r with | some o => mk.l2 o b | none => some none)
  | [], b, out => by rw [mk.l2]; rfl
  | c :: t, b, out => by
    rw [List.cons_append, mk.l2, mk.l2]
    split
    · cases mk.both (out.getD (mk.cnt out c.f0) z23) c with
      | none => rfl
      | some r =>
        simp only [Option.bind_some]
        split
        · exact l2_append t b _
        · rfl
    · split
      · rfl
      · exact l2_append t b _
theorem rises_pair {l : List S23} (h : Rises l) : l.Pairwise (fun x y => x.f0 ≠ y.f0) := by
  induction l with
  | nil => exact List.Pairwise.nil
  | cons c t ih =>
    refine List.pairwise_cons.2 ⟨fun y hy e => ?_, ih (rises_tail h)⟩
    have := rises_head h y hy
    rw [e, cmpB_self] at this
    omega
theorem makeE_of {l r : List S23} {k : Nat} (h : pred_Make.f k l = some (some r)) : pred_MakeE.f k l = some (.ok r) := by
  rw [mke_f] at h
  obtain ⟨e, h1, h2⟩ := Option.map_eq_some_iff.1 h
  cases e with
  | ok x => rw [h1]; cases h2; rfl
  | error p => cases h2
theorem l1_app (k : Nat) : ∀ (a b : List S23), mk.l1 k (a ++ b) = (mk.l1 k a).bind (fun r => if r = true then mk.l1 k b else some false)
  | [], b => rfl
  | c :: t, b => by
    rw [List.cons_append, mk.l1, mk.l1]
    cases pred_RightOne.f k c.f0 c.f1 c.f2 c.f3 c.f4 with
    | none => rfl
    | some r =>
      cases r
      · rfl
      · exact l1_app k t b
theorem right_up (c : S23) (b : Bool) : ∀ (d k : Nat), pred_RightOne.f k c.f0 c.f1 c.f2 c.f3 c.f4 = some b → pred_RightOne.f (k + d) c.f0 c.f1 c.f2 c.f3 c.f4 = some b
  | 0, k, h => h
  | d + 1, k, h => pred_RightOne.mono _ _ _ _ _ _ _ (right_up c b d k h)
theorem l1_up (k k' : Nat) (hk : k ≤ k') : ∀ (l : List S23) (b : Bool), mk.l1 k l = some b → mk.l1 k' l = some b
  | [], b, h => h
  | c :: t, b, h => by
    rw [mk.l1] at h ⊢
    obtain ⟨r, h1, h2⟩ := Option.bind_eq_some_iff.1 h
    have := right_up c r (k' - k) k h1
    rw [show k + (k' - k) = k' by omega] at this
    rw [this]
    simp only [Option.bind_some]
    cases r
    · exact h2
    · exact l1_up k k' hk t b h2
/-- A list with the same members as a normal form, each name once, has that normal form. -/
theorem make_perm {p l : List S23} (hp : Nice nms p) (hm : ∀ x, x ∈ l ↔ x ∈ p) (hpw : l.Pairwise (fun x y => x.f0 ≠ y.f0)) (hlen : l.length ≤ 5) : pred_MakeE.f 30 l = some (.ok p) := by
  refine makeE_of ?_
  unfold pred_Make.f
  have hl1 : mk.l1 30 l = some true := by
    have h10 := l1_ok l (fun c hc => hp.ok c ((hm c).1 hc)) (fun c hc => (nms_ok c.f0 (hp.name c ((hm c).1 hc))).1)
    exact l1_up 10 30 (by omega) l true h10
  rw [hl1]
  simp only [Option.bind_some, if_true]
  obtain ⟨r, e1, e2, e3⟩ := l2_new l [] rises_nil (fun y hy x hx => by cases hx) hpw (by simpa using hlen)
  rw [e1, rises_ext e2 hp.rises (fun x => by rw [e3, hm]; simp)]
theorem make_self {p : List S23} (hp : Nice nms p) : pred_MakeE.f 30 p = some (.ok p) := make_perm hp (fun _ => Iff.rfl) (rises_pair hp.rises) hp.len
theorem make_turn {p : List S23} (hp : Nice nms p) (c : Nat) : pred_MakeE.f 30 (p.drop c ++ p.take c) = some (.ok p) := by
  refine make_perm hp (fun x => ?_) ?_ ?_
  · rw [List.mem_append]
    conv => rhs; rw [← List.take_append_drop c p, List.mem_append]
    exact Or.comm
  · have h := rises_pair hp.rises
    rw [← List.take_append_drop c p] at h
    rw [List.pairwise_append] at h ⊢
    exact ⟨h.2.1, h.1, fun x hx y hy e => h.2.2 y hy x hx e.symm⟩
  · have := hp.len
    simp
    omega
theorem make_twice {p : List S23} (hp : Nice nms p) : pred_MakeE.f 30 (p ++ p) = some (.ok p) := by
  have h := make_self hp
  have h' : pred_Make.f 30 p = some (some p) := by rw [mke_f, h]; rfl
  refine makeE_of ?_
  unfold pred_Make.f at h' ⊢
  obtain ⟨b, h1, h2⟩ := Option.bind_eq_some_iff.1 h'
  cases b with
  | false => simp at h2
  | true =>
    simp only [if_true] at h2
    rw [l1_app, h1]
    simp only [Option.bind_some, if_true, h1]
    rw [l2_append, h2]
    exact l2_self p p hp.rises (fun y hy => ⟨hy, hp.ok y hy⟩)
end Go.Proofs.YtfabnapjbgamaaaGreatDoor.MPred
