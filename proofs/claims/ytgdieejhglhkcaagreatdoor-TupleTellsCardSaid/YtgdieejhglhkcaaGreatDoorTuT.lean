import Derived.Test.YtgdieejhglhkcaaGreatDoorTuP
import Derived.Test.YtgdieejhglhkcaaGreatDoorTuW
import Derived.Test.YtgdieejhglhkcaaGreatDoorMTupx9
import Derived.Test.YtgdieejhglhkcaaGreatDoorMTupx6
namespace Go.Proofs.YtgdieejhglhkcaaGreatDoor.MTup
open Go.RowKit Go.Lib Go.Proofs.YtgdieejhglhkcaaGreatDoorW.PrintWords Go.Proofs.YtgdieejhglhkcaaGreatDoorW.PrintLast Go.Proofs.YtgdieejhglhkcaaGreatDoorW.PrintMore
set_option linter.unusedVariables false
set_option linter.unusedSimpArgs false
theorem wrap_nat' (i : Nat) (h : i < 9223372036854775807) : wrap64 ((i : Int) + 1) = ((i + 1 : Nat) : Int) := by unfold wrap64; omega
theorem size_nil (s : ByteArray) : s.toList = ([] : List UInt8) ↔ s.size = 0 := by
  rw [toList_data]
  constructor
  · intro h
    have : s.data.toList.length = 0 := by rw [h]; rfl
    rwa [Array.length_toList] at this
  · intro h
    apply List.eq_nil_of_length_eq_zero
    rwa [Array.length_toList]
theorem name_ref : ∀ (k : Nat) (s : ByteArray) (i : Int), tuple_Name.l0 k s (s.size : Int) i = broadsideref1_Name.l0 k s i
  | 0, _, _ => rfl
  | k + 1, s, i => by
    rw [tuple_Name.l0, broadsideref1_Name.l0]
    by_cases h1 : i < (s.size : Int)
    · rw [if_pos h1, if_pos h1]
      by_cases h2 : 0 ≤ i
      · rw [if_pos h2, if_pos h2, if_pos h1]
        by_cases h3 : bt s i < 97
        · rw [if_pos h3, if_pos h3]
        · rw [if_neg h3, if_neg h3]
          by_cases h4 : bt s i > 122
          · rw [if_pos h4, if_pos h4]
          · rw [if_neg h4, if_neg h4]
            exact name_ref k s _
      · rw [if_neg h2, if_neg h2, if_pos h1]
    · rw [if_neg h1, if_neg h1]
      by_cases h : s.toList = ([] : List UInt8)
      · rw [if_pos h, if_neg (by have := (size_nil s).1 h; omega)]
      · rw [if_neg h, if_pos (by have : ¬ s.size = 0 := fun e => h ((size_nil s).2 e); omega)]
theorem name_tot (s : ByteArray) (hs : s.size ≤ 9223372036854775807) : ∀ (d i k : Nat), i + d = s.size → d + 1 ≤ k → ∃ b, tuple_Name.l0 k s (s.size : Int) i = some b
  | 0, i, k, h, hk => by
    obtain ⟨k, rfl⟩ : ∃ q, k = q + 1 := ⟨k - 1, by omega⟩
    rw [tuple_Name.l0, if_neg (by omega)]
    split <;> exact ⟨_, rfl⟩
  | d + 1, i, k, h, hk => by
    obtain ⟨k, rfl⟩ : ∃ q, k = q + 1 := ⟨k - 1, by omega⟩
    rw [tuple_Name.l0, if_pos (by omega), if_pos (by omega), if_pos (by omega), wrap_nat' i (by omega)]
    split
    · exact ⟨_, rfl⟩
    · split
      · exact ⟨_, rfl⟩
      · exact name_tot s hs d (i + 1) k (by omega) (by omega)
theorem name_both (s : ByteArray) (hs : s.size ≤ 9223372036854775807) (k : Nat) (hk : s.size + 1 ≤ k) : ∃ b, tuple_Name.f k s = some b ∧ broadsideref1_Name.f k s = some b := by
  obtain ⟨b, hb⟩ := name_tot s hs s.size 0 k (by omega) hk
  rw [show ((0 : Nat) : Int) = 0 from rfl] at hb
  exact ⟨b, hb, by unfold broadsideref1_Name.f; rw [← name_ref]; exact hb⟩
theorem right_ref : ∀ (k : Nat) (x0 x5 : List S25) (x6 x7 : Int), tuple_Right.l0 k x0 x5 x6 x7 = broadsideref1_RightTuple.l0 k x0 x5 x6 x7
  | 0, _, _, _, _ => rfl
  | k + 1, x0, x5, x6, x7 => by
    rw [tuple_Right.l0, broadsideref1_RightTuple.l0]
    have e : tuple_Name.f k (rd_T25 x5 x7).f0 = broadsideref1_Name.f k (rd_T25 x5 x7).f0 := name_ref k _ 0
    rw [e]
    simp only [right_ref k]
    rfl
theorem value_tot (v : S23) : ∃ b, value_Right.f v.f0 v.f1 v.f2 = some b := by
  unfold value_Right.f
  split
  · split <;> exact ⟨_, rfl⟩
  · exact ⟨_, rfl⟩
theorem right_tot (l : List S25) (B : Nat) (hB : ∀ x ∈ l, x.f0.size + 1 ≤ B) (hB2 : ∀ x ∈ l, x.f0.size ≤ 9223372036854775807) (hl : l.length ≤ 1000) : ∀ (d i k : Nat), i + d = l.length → d + B + 1 ≤ k → ∃ b, tuple_Right.l0 k l l l.length i = some b
  | 0, i, k, h, hk => by
    obtain ⟨k, rfl⟩ : ∃ q, k = q + 1 := ⟨k - 1, by omega⟩
    rw [tuple_Right.l0, if_neg (by omega)]
    exact ⟨_, rfl⟩
  | d + 1, i, k, h, hk => by
    obtain ⟨k, rfl⟩ : ∃ q, k = q + 1 := ⟨k - 1, by omega⟩
    have hm := getD_mem25 l i (by omega)
    have hq := hB _ hm
    obtain ⟨b1, hb1, _⟩ := name_both (l.getD i z25).f0 (hB2 _ hm) k (by omega)
    obtain ⟨b2, hb2⟩ := value_tot (l.getD i z25).f1
    obtain ⟨b3, ih⟩ := right_tot l B hB hB2 hl d (i + 1) k (by omega) (by omega)
    rw [tuple_Right.l0, if_pos (by omega), if_pos (by omega), if_pos (by omega), rd25, hb1]
    simp only [Option.bind_some]
    split
    · rw [hb2]
      simp only [Option.bind_some]
      split
      · rw [wrap_nat i (by omega)]
        split
        · have e1 : wrap64 ((i : Int) - 1) = ((i - 1 : Nat) : Int) := by unfold wrap64; omega
          rw [e1, if_pos (by omega), if_pos (by omega)]
          split
          · exact ⟨_, ih⟩
          · exact ⟨_, rfl⟩
        · exact ⟨_, ih⟩
      · exact ⟨_, rfl⟩
    · exact ⟨_, rfl⟩
abbrev qm : S25 := ⟨(⟨#[113]⟩ : ByteArray), ⟨false, 0, (⟨#[]⟩ : ByteArray)⟩⟩
theorem intact_l0 (l : List S25) (hl : l.length ≤ 1000) : ∀ (d j k : Nat), j + d = 80 → d + 1 ≤ k →
    api_Attr_19.l0 k (l ++ List.replicate 80 qm) ((l.length + j : Nat) : Int) (⟨#[113]⟩ : ByteArray) false 0 (⟨#[]⟩ : ByteArray) = some true
  | 0, j, k, h, hk => by
    obtain ⟨k, rfl⟩ : ∃ q, k = q + 1 := ⟨k - 1, by omega⟩
    rw [api_Attr_19.l0, if_neg (by simp; omega)]
  | d + 1, j, k, h, hk => by
    obtain ⟨k, rfl⟩ : ∃ q, k = q + 1 := ⟨k - 1, by omega⟩
    have e : (l ++ List.replicate 80 qm).getD (l.length + j) z25 = qm := by
      rw [List.getD_eq_getElem?_getD, List.getElem?_append_right (by omega), show l.length + j - l.length = j by omega, List.getElem?_replicate, if_pos (by omega)]
      rfl
    have ih := intact_l0 l hl d (j + 1) k (by omega) (by omega)
    rw [api_Attr_19.l0, if_pos (by simp; omega), if_pos (by omega), rd25, e, if_neg (by simp [qm]), wrap_nat _ (by omega)]
    rw [show l.length + j + 1 = l.length + (j + 1) by omega]
    exact ih
theorem intact_char (l : List S25) (hl : l.length ≤ 100) (k : Nat) (hk : 200 ≤ k) : api_Attr_19.f k (l ++ List.replicate 80 qm) l (⟨#[113]⟩ : ByteArray) false 0 (⟨#[]⟩ : ByteArray) = some true := by
  unfold api_Attr_19.f
  have e1 : wrap64 ((l.length : Int) + 80) = (l.length : Int) + 80 := by unfold wrap64; omega
  rw [e1, if_pos (by simp), if_pos (by omega), if_pos (by simp; omega), Int.toNat_natCast, List.take_left']
  · obtain ⟨b, hb, hi⟩ := same2_char l l hl k (by omega)
    rw [hb, hi.2 rfl]
    simp only [Option.bind_some]
    obtain ⟨k, rfl⟩ : ∃ q, k = q + 1 := ⟨k - 1, by omega⟩
    rw [api_Attr_19.j0, if_neg (by simp)]
    exact intact_l0 l (by omega) 80 0 k (by omega) (by omega)
  · rfl
theorem tells_end (l : List S25) (s : ByteArray) (B : Nat) (hB : ∀ x ∈ l, x.f0.size + 1 ≤ B) (hB2 : ∀ x ∈ l, x.f0.size ≤ 9223372036854775807) (hs : s.size + 1 ≤ B) (hs2 : s.size ≤ 9223372036854775807) (hl : l.length ≤ 9) (k : Nat) (hk : l.length + B + 200 ≤ k) (fl : Bool) (w0 : Bool) (w1 : Int) (w2 : ByteArray) (hR : getR (getA l s) = (w0, w1, w2, fl)) (i : Int) (hi : i = l.length) :
    broadsidelaw3_TupleTells.l0 (k + 1) s l fl l l.length i w0 w1 w2 = some true := by
  rw [broadsidelaw3_TupleTells.l0, if_neg (by omega), get_char l s hl k (by omega), hR]
  simp only [Option.bind_some]
  have hroom : api_Attr_15.f l (⟨#[113]⟩ : ByteArray) false 0 (⟨#[]⟩ : ByteArray) = some (l ++ List.replicate 80 qm) := by unfold api_Attr_15.f; rw [if_pos (by omega)]
  rw [hroom]
  simp only [Option.bind_some]
  have hge : (l.length : Int) ≤ ((l ++ List.replicate 80 qm).length : Int) := by rw [List.length_append]; omega
  rw [if_pos (by omega), if_pos hge, Int.toNat_natCast, List.take_left' rfl]
  have hint := intact_char l (by omega) k (by omega)
  generalize l ++ List.replicate 80 qm = full at hint
  obtain ⟨b, hb⟩ := right_tot l B hB hB2 (by omega) l.length 0 k (by omega) (by omega)
  rw [show ((0 : Nat) : Int) = 0 from rfl] at hb
  have hb1 : tuple_Right.f k l = some b := hb
  have hb2 : broadsideref1_RightTuple.f k l = some b := by unfold broadsideref1_RightTuple.f; rw [← right_ref]; exact hb
  rw [hb1, hb2]
  simp only [Option.bind_some]
  obtain ⟨c, hc1, hc2⟩ := name_both s hs2 k (by omega)
  have hsm := same_refl l (by omega) k (by omega)
  rw [if_pos (beq_self_eq_true b), if_pos (by simp), if_pos (beq_self_eq_true fl)]
  rw [hc1, hc2]
  simp only [Option.bind_some]
  rw [if_pos (beq_self_eq_true c), hsm, Option.bind_some, if_pos rfl, hint, Option.bind_some, if_pos rfl, up_fuel (g := fun k => broadsidelaw3_TupleRuns.f k) (fun k => broadsidelaw3_TupleRuns.mono k) runs_true k (by omega), Option.bind_some]
theorem tells_l0 (l : List S25) (s : ByteArray) (B : Nat) (hB : ∀ x ∈ l, x.f0.size + 1 ≤ B) (hB2 : ∀ x ∈ l, x.f0.size ≤ 9223372036854775807) (hs : s.size + 1 ≤ B) (hs2 : s.size ≤ 9223372036854775807) (hl : l.length ≤ 9) :
    ∀ (d i k : Nat) (fl : Bool) (w0 : Bool) (w1 : Int) (w2 : ByteArray), i + d = l.length → d + B + 300 ≤ k → (fl = true → getR (getA l s) = (w0, w1, w2, true)) → (fl = false → (w0, w1, w2) = (false, 0, (⟨#[]⟩ : ByteArray)) ∧ getA l s = getA (l.drop i) s) →
    broadsidelaw3_TupleTells.l0 k s l fl l l.length i w0 w1 w2 = some true
  | 0, i, k, fl, w0, w1, w2, h, hk, h1, h2 => by
    obtain ⟨k, rfl⟩ : ∃ q, k = q + 1 := ⟨k - 1, by omega⟩
    have hR : getR (getA l s) = (w0, w1, w2, fl) := by
      cases fl with
      | true => exact h1 rfl
      | false =>
        obtain ⟨e1, e2⟩ := h2 rfl
        rw [e2, List.drop_of_length_le (by omega)]
        simp only [Prod.mk.injEq] at e1
        obtain ⟨rfl, rfl, rfl⟩ := e1
        rfl
    exact tells_end l s B hB hB2 hs hs2 hl k (by omega) fl w0 w1 w2 hR i (by omega)
  | d + 1, i, k, fl, w0, w1, w2, h, hk, h1, h2 => by
    obtain ⟨k, rfl⟩ : ∃ q, k = q + 1 := ⟨k - 1, by omega⟩
    rw [broadsidelaw3_TupleTells.l0, if_pos (by omega), if_pos (by omega), if_pos (by omega), rd25, wrap_nat i (by omega)]
    have hd : getA (l.drop i) s = if (l.getD i z25).f0.toList = s.toList then some (l.getD i z25).f1 else getA (l.drop (i + 1)) s := by rw [drop25 l i (by omega), getA]
    split
    · rename_i e
      rw [if_pos e] at hd
      split
      · rename_i hf
        exact tells_l0 l s B hB hB2 hs hs2 hl d (i + 1) k fl w0 w1 w2 (by omega) (by omega) h1 (fun h3 => by rw [hf] at h3; cases h3)
      · rename_i hf
        have hf' : fl = false := by simpa using hf
        have e2 := (h2 hf').2
        rw [hd] at e2
        exact tells_l0 l s B hB hB2 hs hs2 hl d (i + 1) k true _ _ _ (by omega) (by omega) (fun _ => by rw [e2]) (fun h3 => by cases h3)
    · rename_i e
      rw [if_neg e] at hd
      exact tells_l0 l s B hB hB2 hs hs2 hl d (i + 1) k fl w0 w1 w2 (by omega) (by omega) h1 (fun h3 => ⟨(h2 h3).1, (h2 h3).2.trans hd⟩)
theorem sum_le {l : List S25} {x : S25} (h : x ∈ l) : x.f0.size ≤ (l.map (·.f0.size)).sum := by
  induction l with
  | nil => simp at h
  | cons y t ih =>
    rw [List.map_cons, List.sum_cons]
    rcases List.mem_cons.1 h with rfl | h
    · omega
    · have := ih h; omega
theorem take_sum : ∀ (l : List S25) (n : Nat), ((l.take n).map (·.f0.size)).sum ≤ (l.map (·.f0.size)).sum
  | [], n => by simp
  | x :: t, 0 => by simp
  | x :: t, n + 1 => by
    simp only [List.take_succ_cons, List.map_cons, List.sum_cons]
    have := take_sum t n
    omega
theorem tells_j0 (l : List S25) (s : ByteArray) (hl : l.length ≤ 9) (hM : ∀ x ∈ l, x.f0.size ≤ 9223372036854775807) (hs : s.size ≤ 9223372036854775807) (K : Nat) (hK : 1000 + (l.map (·.f0.size)).sum + s.size ≤ K) : broadsidelaw3_TupleTells.j0 K s l = some true := by
  obtain ⟨k, rfl⟩ : ∃ q, K = q + 1 := ⟨K - 1, by omega⟩
  rw [broadsidelaw3_TupleTells.j0]
  exact tells_l0 l s (1 + (l.map (·.f0.size)).sum + s.size) (fun x hx => by have := sum_le hx; omega) hM (by omega) hs hl l.length 0 k false false 0 ⟨#[]⟩ (by omega) (by omega) (fun h => by cases h) (fun _ => ⟨rfl, rfl⟩)
theorem nms_small : ∀ s ∈ nms, s.size ≤ 12 := by
  have h1 : (nms.all fun s => decide (s.size ≤ 12)) = true := by kernel_rfl
  exact fun s hs => by simpa using List.all_eq_true.1 h1 s hs
theorem sum_small : ∀ l : List S25, (∀ x ∈ l, x.f0.size ≤ 12) → (l.map (·.f0.size)).sum ≤ l.length * 12
  | [], _ => by simp
  | y :: t, h => by
    rw [List.map_cons, List.sum_cons, List.length_cons, Nat.succ_mul]
    have h1 := h y (by simp)
    have h2 := sum_small t (fun x hx => h x (by simp [hx]))
    omega
theorem tells_true (l0 : List S25) (a0 a1 : List Int) (own : Bool) (s : ByteArray) (hM : ∀ x ∈ l0, x.f0.size ≤ 9223372036854775807) (hs : s.size ≤ 9223372036854775807) : ∃ k, broadsidelaw3_TupleTells.f k l0 a0 a1 own s = some true := by
  obtain ⟨K, hK⟩ : ∃ K : Nat, K = 2000 + (l0.map (·.f0.size)).sum + s.size := ⟨_, rfl⟩
  refine ⟨K, ?_⟩
  have hmn : mn (l0.length : Int) 7 = ((min l0.length 7 : Nat) : Int) := by unfold mn; split <;> omega
  unfold broadsidelaw3_TupleTells.f
  simp only [Option.bind_some]
  rw [hmn, if_pos (by omega), if_pos (by omega), Int.toNat_natCast]
  have hlen : (l0.take (min l0.length 7)).length ≤ 7 := by rw [List.length_take]; omega
  rw [if_pos (by simp only [List.length_nil]; omega), List.nil_append]
  cases own with
  | true =>
    rw [if_pos rfl]
    obtain ⟨l, hl, hT⟩ := tup_nice a0 a1 K (by omega)
    have hsm := sum_small l (fun x hx => nms_small _ (hT.name x hx))
    have h5 := hT.len
    rw [hl]
    simp only [Option.bind_some]
    exact tells_j0 l s (by omega) (fun x hx => by have := nms_small _ (hT.name x hx); omega) hs K (by omega)
  | false =>
    rw [if_neg (by simp)]
    exact tells_j0 _ s (by omega) (fun x hx => hM x (List.mem_of_mem_take hx)) hs K (by have := take_sum l0 (min l0.length 7); omega)
theorem tells_calls (A0 : Option Addr) (c0 : Nat) (l0 : List S25) (A1_0 : Option Addr) (c1_0 : Nat) (l1_0 : List Int) (A1_1 : Option Addr) (c1_1 : Nat) (l1_1 : List Int) (a2 : Bool) (a3 : ByteArray) (w : World) (HTAB : Aside0 (Val.Tab w)) (hr0 : Kd.C k25 w A0 l0.length l0) (hc0 : l0.length ≤ c0) (hr1_0 : Kd.C (Kd.int .i64) w A1_0 l1_0.length l1_0) (hc1_0 : l1_0.length ≤ c1_0) (hr1_1 : Kd.C (Kd.int .i64) w A1_1 l1_1.length l1_1) (hc1_1 : l1_1.length ≤ c1_1) (hM : ∀ x ∈ l0, x.f0.size ≤ 9223372036854775807) (hs : a3.size ≤ 9223372036854775807) :
    Calls Tryz.prog 5 #[.slice A0 l0.length c0, .agg #[.slice A1_0 l1_0.length c1_0, .slice A1_1 l1_1.length c1_1], .bool a2, .string a3] w fun e w' => e = .returned (.bool true) ∧ Below w.heap.size w w' := by
  obtain ⟨k, hk⟩ := tells_true l0 l1_0 l1_1 a2 a3 hM hs
  exact broadsidelaw3_TupleTells.calls k A0 c0 l0 A1_0 c1_0 l1_0 A1_1 c1_1 l1_1 a2 a3 true w HTAB ⟨rfl⟩ hr0 hc0 hr1_0 hc1_0 hr1_1 hc1_1 hk
end Go.Proofs.YtgdieejhglhkcaaGreatDoor.MTup
