import Derived.Test.YtgdieejhglhkcaaGreatDoorTuP
import Derived.Test.YtgdieejhglhkcaaGreatDoorTuR
import Derived.Test.YtgdieejhglhkcaaGreatDoorMTupN
namespace Go.Proofs.YtgdieejhglhkcaaGreatDoor.MTup
open Go.RowKit Go.Lib Go.Proofs.YtgdieejhglhkcaaGreatDoorW.PrintWords Go.Proofs.YtgdieejhglhkcaaGreatDoorW.PrintLast Go.Proofs.YtgdieejhglhkcaaGreatDoorW.PrintMore
set_option linter.unusedVariables false
set_option linter.unusedSimpArgs false
theorem value_tot (v : S23) : ∃ b, value_Right.f v.f0 v.f1 v.f2 = some b := by
  unfold value_Right.f
  split
  · split <;> exact ⟨_, rfl⟩
  · exact ⟨_, rfl⟩
/-- What makes attributes right, whatever their values and their order. -/
def RT (l : List S25) (i : Nat) : Prop := (∀ j, i ≤ j → j < l.length → value_Right.f (l.getD j z25).f1.f0 (l.getD j z25).f1.f1 (l.getD j z25).f1.f2 = some true) ∧ (∀ j, i ≤ j → 0 < j → j < l.length → cmpB (l.getD (j - 1) z25).f0 (l.getD j z25).f0 < 0) ∧ l.length ≤ 5
theorem RT.step {l : List S25} {i : Nat} (h0 : value_Right.f (l.getD i z25).f1.f0 (l.getD i z25).f1.f1 (l.getD i z25).f1.f2 = some true) (h1 : 0 < i → cmpB (l.getD (i - 1) z25).f0 (l.getD i z25).f0 < 0) (hi : i < l.length) : RT l i ↔ RT l (i + 1) := by
  constructor
  · rintro ⟨a, b, c⟩
    exact ⟨fun j h => a j (by omega), fun j h => b j (by omega), c⟩
  · rintro ⟨a, b, c⟩
    refine ⟨fun j h hj => ?_, fun j h hp hj => ?_, c⟩
    · rcases Nat.eq_or_lt_of_le h with rfl | h
      · exact h0
      · exact a j h hj
    · rcases Nat.eq_or_lt_of_le h with rfl | h
      · exact h1 hp
      · exact b j h hp hj
theorem right_any (l : List S25) (hn : ∀ x ∈ l, x.f0 ∈ nms) (hl : l.length ≤ 1000) : ∀ (d i k : Nat), i + d = l.length → d + 11 ≤ k →
    ∃ b, tuple_Right.l0 k l l l.length i = some b ∧ (b = true ↔ RT l i)
  | 0, i, k, h, hk => by
    obtain ⟨k, rfl⟩ : ∃ q, k = q + 1 := ⟨k - 1, by omega⟩
    rw [tuple_Right.l0, if_neg (by omega)]
    refine ⟨_, rfl, ?_⟩
    rw [decide_eq_true_eq]
    exact ⟨fun h2 => ⟨fun j h3 h4 => by omega, fun j h3 h4 h5 => by omega, by omega⟩, fun h2 => by have := h2.2.2; omega⟩
  | d + 1, i, k, h, hk => by
    obtain ⟨k, rfl⟩ : ∃ q, k = q + 1 := ⟨k - 1, by omega⟩
    have hm := getD_mem25 l i (by omega)
    obtain ⟨b, ih, hb⟩ := right_any l hn hl d (i + 1) k (by omega) (by omega)
    rw [tuple_Right.l0, if_pos (by omega), if_pos (by omega), if_pos (by omega), rd25, up_fuel (g := fun k => tuple_Name.f k (l.getD i z25).f0) (fun k => tuple_Name.mono _ k) (name_ok _ (hn _ hm)) k (by omega), Option.bind_some, if_pos rfl]
    obtain ⟨c, hc⟩ := value_tot (l.getD i z25).f1
    rw [hc, Option.bind_some]
    cases c with
    | false =>
      rw [if_neg (by simp)]
      refine ⟨false, rfl, by simp; intro h2; have := h2.1 i (Nat.le_refl _) (by omega); rw [hc] at this; cases this⟩
    | true =>
      rw [if_pos rfl, wrap_nat i (by omega)]
      split
      · rename_i h0
        have e1 : wrap64 ((i : Int) - 1) = ((i - 1 : Nat) : Int) := by unfold wrap64; omega
        rw [e1, if_pos (by omega), if_pos (by omega), rd25, bless]
        by_cases h2 : cmpB (l.getD (i - 1) z25).f0 (l.getD i z25).f0 < 0
        · rw [if_pos (by simpa using h2)]
          exact ⟨b, ih, by rw [hb, RT.step hc (fun _ => h2) (by omega)]⟩
        · rw [if_neg (by simpa using h2)]
          exact ⟨false, rfl, by simp; intro h3; exact h2 (h3.2.1 i (Nat.le_refl _) (by omega) (by omega))⟩
      · rename_i h0
        exact ⟨b, ih, by rw [hb, RT.step hc (fun h3 => by omega) (by omega)]⟩
theorem right_gen (l : List S25) (hn : ∀ x ∈ l, x.f0 ∈ nms) (hl : l.length ≤ 9) (k : Nat) (hk : 40 ≤ k) : ∃ b, tuple_Right.f k l = some b ∧ (b = true ↔ RT l 0) := by
  have := right_any l hn (by omega) l.length 0 k (by omega) (by omega)
  exact this
theorem right_not {l : List S25} (hn : ∀ x ∈ l, x.f0 ∈ nms) (hl : l.length ≤ 9) (h : ¬ RT l 0) (k : Nat) (hk : 40 ≤ k) : tuple_Right.f k l = some false := by
  obtain ⟨b, hb, hi⟩ := right_gen l hn hl k hk
  cases b with
  | false => exact hb
  | true => exact absurd (hi.1 rfl) h
theorem rt_rises {l : List S25} (h : RT l 0) : ∀ (d a : Nat), a + d + 1 < l.length → cmpB (l.getD a z25).f0 (l.getD (a + d + 1) z25).f0 < 0
  | 0, a, ha => by have := h.2.1 (a + 1) (by omega) (by omega) (by omega); simpa using this
  | d + 1, a, ha => by
    have h1 := rt_rises h d a (by omega)
    have h2 := h.2.1 (a + d + 1 + 1) (by omega) (by omega) (by omega)
    rw [show a + (d + 1) + 1 = a + d + 1 + 1 by omega]
    exact cmpB_trans h1 (by simpa using h2)
theorem up_lt {l : List S25} (hU : Up cmpB nm25 l) {a b : Nat} (hab : a < b) (hb : b < l.length) : cmpB (l.getD a z25).f0 (l.getD b z25).f0 < 0 := by
  have := List.pairwise_iff_getElem.1 hU a b (by omega) hb hab
  rw [List.getD_eq_getElem?_getD, List.getElem?_eq_getElem (show a < l.length by omega), List.getD_eq_getElem?_getD, List.getElem?_eq_getElem hb]
  exact this
abbrev eta (x : S25) : S25 := ⟨x.f0, ⟨x.f1.f0, x.f1.f1, x.f1.f2⟩⟩
theorem set_get {l : List S25} {a : Nat} (y : S25) (ha : a < l.length) : (l.set a y).getD a z25 = y := by
  rw [List.getD_eq_getElem?_getD, List.getElem?_set_self ha]; rfl
theorem set_ne {l : List S25} {a b : Nat} (y : S25) (h : a ≠ b) : (l.set a y).getD b z25 = l.getD b z25 := by
  rw [List.getD_eq_getElem?_getD, List.getElem?_set_ne h, List.getD_eq_getElem?_getD]
theorem mem_of_set {l : List S25} {a : Nat} {y z : S25} (h : z ∈ l.set a y) : z ∈ l ∨ z = y := List.mem_or_eq_of_mem_set h
theorem swap_right {l : List S25} (hT : TN l) {a b : Nat} (ha : a < l.length) (hb : b < l.length) (k : Nat) (hk : 40 ≤ k) :
    tuple_Right.f k ((l.set a (eta (l.getD b z25))).set b (eta (l.getD a z25))) = some (decide (a = b)) := by
  have h5 := hT.len
  have e : ∀ x : S25, eta x = x := fun _ => rfl
  rw [e, e]
  by_cases hab : a = b
  · subst hab
    have : (l.set a (l.getD a z25)).set a (l.getD a z25) = l := by
      rw [List.set_set]
      apply List.ext_getElem
      · simp
      · intro i h1 h2
        rw [List.getElem_set]
        split
        · rename_i h3
          subst h3
          rw [List.getD_eq_getElem?_getD, List.getElem?_eq_getElem ha]; rfl
        · rfl
    rw [this, right_char hT k (by omega), decide_eq_true rfl]
  · rw [decide_eq_false hab]
    have ea : ((l.set a (l.getD b z25)).set b (l.getD a z25)).getD a z25 = l.getD b z25 := by rw [set_ne _ (fun h => hab h.symm), set_get _ ha]
    have eb : ((l.set a (l.getD b z25)).set b (l.getD a z25)).getD b z25 = l.getD a z25 := by rw [set_get _ (by simpa using hb)]
    have hlen : ((l.set a (l.getD b z25)).set b (l.getD a z25)).length = l.length := by simp
    have hsn : ∀ z ∈ (l.set a (l.getD b z25)).set b (l.getD a z25), z.f0 ∈ nms := fun z hz => by
      rcases mem_of_set hz with h | rfl
      · rcases mem_of_set h with h | rfl
        · exact hT.name _ h
        · exact hT.name _ (getD_mem25 l b hb)
      · exact hT.name _ (getD_mem25 l a ha)
    generalize (l.set a (l.getD b z25)).set b (l.getD a z25) = s0 at ea eb hlen hsn ⊢
    have hn : ∀ z ∈ s0, z.f0 ∈ nms := hsn
    refine right_not hn (by omega) (fun hR => ?_) k hk
    rcases Nat.lt_or_gt_of_ne hab with h | h
    · have h1 := rt_rises hR (b - a - 1) a (by omega)
      rw [show a + (b - a - 1) + 1 = b by omega, ea, eb] at h1
      have h2 := up_lt hT.up h hb
      rw [cmpB_anti] at h1
      omega
    · have h1 := rt_rises hR (a - b - 1) b (by omega)
      rw [show b + (a - b - 1) + 1 = a by omega, ea, eb] at h1
      have h2 := up_lt hT.up h ha
      rw [cmpB_anti] at h1
      omega
theorem dbl_not {l : List S25} (hT : TN l) (h2 : 2 ≤ l.length) (k : Nat) (hk : 40 ≤ k) : tuple_Right.f k (l ++ [eta (l.getD (l.length - 1) z25)]) = some false := by
  have h5 := hT.len
  have e : ∀ x : S25, eta x = x := fun _ => rfl
  rw [e]
  have hm := getD_mem25 l (l.length - 1) (by omega)
  refine right_not (fun z hz => ?_) (by simp; omega) (fun hR => ?_) k hk
  · rcases List.mem_append.1 hz with h | h
    · exact hT.name _ h
    · simp only [List.mem_singleton] at h
      subst h
      exact hT.name _ hm
  · have h1 := hR.2.1 l.length (by omega) (by omega) (by simp)
    have ea : (l ++ [l.getD (l.length - 1) z25]).getD (l.length - 1) z25 = l.getD (l.length - 1) z25 := by
      rw [List.getD_eq_getElem?_getD, List.getElem?_append_left (by omega), List.getD_eq_getElem?_getD]
    have eb : (l ++ [l.getD (l.length - 1) z25]).getD l.length z25 = l.getD (l.length - 1) z25 := by
      rw [List.getD_eq_getElem?_getD, List.getElem?_append_right (Nat.le_refl _)]
      simp
    rw [ea, eb, cmpB_self] at h1
    omega
theorem bad_not {l : List S25} (hT : TN l) {a : Nat} (ha : a < l.length) (k : Nat) (hk : 40 ≤ k) : tuple_Right.f k (l.set a ⟨(l.getD a z25).f0, ⟨false, 1, ⟨#[120]⟩⟩⟩) = some false := by
  have h5 := hT.len
  refine right_not (fun z hz => ?_) (by simp; omega) (fun hR => ?_) k hk
  · rcases mem_of_set hz with h | rfl
    · exact hT.name _ h
    · exact hT.name (l.getD a z25) (getD_mem25 l a ha)
  · have h1 := hR.1 a (Nat.zero_le _) (by simpa using ha)
    rw [set_get _ ha] at h1
    have h2 : value_Right.f false 1 (⟨#[120]⟩ : ByteArray) = some false := by kernel_rfl
    rw [h2] at h1
    cases h1
def qs : Nat → ByteArray
  | 0 => ⟨#[]⟩
  | n + 1 => qs n ++ (⟨#[113]⟩ : ByteArray)
theorem qs_size : ∀ n, (qs n).size = n
  | 0 => rfl
  | n + 1 => by rw [qs, ByteArray.size_append, qs_size n]; rfl
theorem qs_name : ∀ n, n < 16 → tuple_Name.f 30 (qs n) = some (decide (1 ≤ n ∧ n ≤ 12)) := by
  have h : ((List.range 16).all fun n => tuple_Name.f 30 (qs n) == some (decide (1 ≤ n ∧ n ≤ 12))) = true := by kernel_rfl
  intro n hn
  simpa using List.all_eq_true.1 h n (List.mem_range.2 hn)
theorem byte_name : ∀ n : Nat, n < 256 → tuple_Name.f 30 ((⟨#[97]⟩ : ByteArray) ++ strOfNums [(n : Int)]) = some (decide (97 ≤ n ∧ n ≤ 122)) := by
  have h : ((List.range 256).all fun n => tuple_Name.f 30 ((⟨#[97]⟩ : ByteArray) ++ strOfNums [(n : Int)]) == some (decide (97 ≤ n ∧ n ≤ 122))) = true := by kernel_rfl
  intro n hn
  simpa using List.all_eq_true.1 h n (List.mem_range.2 hn)
theorem name_up {s : ByteArray} {b : Bool} (h : tuple_Name.f 30 s = some b) (k : Nat) (hk : 30 ≤ k) : tuple_Name.f k s = some b :=
  up_fuel (g := fun k => tuple_Name.f k s) (fun k => tuple_Name.mono _ k) h k hk
theorem names_j1 (l : List S25) (hT : TN l) (x3 x4 : Int) (k : Nat) (hk : 60 ≤ k) : broadsidelaw3_TupleNames.j1 k x3 x4 l false = some true := by
  obtain ⟨k, rfl⟩ : ∃ q, k = q + 1 := ⟨k - 1, by omega⟩
  have h5 := hT.len
  have hr : broadsidelaw3_TupleRuns.f k = some true := up_fuel (g := fun k => broadsidelaw3_TupleRuns.f k) (fun k => broadsidelaw3_TupleRuns.mono k) runs_true k (by omega)
  rw [broadsidelaw3_TupleNames.j1, if_neg (by simp)]
  by_cases h2 : (l.length : Int) < 2
  · rw [if_pos h2, hr]; rfl
  · rw [if_neg h2]
    have e1 : wrap64 ((l.length : Int) - 1) = (l.length : Int) - 1 := by unfold wrap64; omega
    rw [e1, fo_within _ _ (by omega) (by omega), fo_within _ _ (by omega) (by omega), Option.bind_some, Option.bind_some]
    have q0 : 0 ≤ x3 % ((l.length : Int) - 1 + 1) := Int.emod_nonneg _ (by omega)
    have q1 : x3 % ((l.length : Int) - 1 + 1) < l.length := by have := Int.emod_lt_of_pos x3 (b := (l.length : Int) - 1 + 1) (by omega); omega
    have p0 : 0 ≤ x4 % ((l.length : Int) - 1 + 1) := Int.emod_nonneg _ (by omega)
    have p1 : x4 % ((l.length : Int) - 1 + 1) < l.length := by have := Int.emod_lt_of_pos x4 (b := (l.length : Int) - 1 + 1) (by omega); omega
    generalize x3 % ((l.length : Int) - 1 + 1) = q at q0 q1 ⊢
    generalize x4 % ((l.length : Int) - 1 + 1) = p at p0 p1 ⊢
    obtain ⟨a, rfl⟩ := Int.eq_ofNat_of_zero_le q0
    obtain ⟨b, rfl⟩ := Int.eq_ofNat_of_zero_le p0
    have ha : a < l.length := by omega
    have hb : b < l.length := by omega
    have hs := swap_right hT ha hb k (by omega)
    have hd := dbl_not hT (by omega) k (by omega)
    have hv := bad_not hT ha k (by omega)
    have e2 : (l.length : Int) - 1 = ((l.length - 1 : Nat) : Int) := by omega
    simp only [e2, rd25, Int.toNat_natCast, List.nil_append, Option.bind_some, hs, hd, hv, hr, List.length_nil]
    rw [if_pos (by omega), if_pos p0, if_pos p1, if_pos q0, if_pos q1, if_pos (by omega), if_pos (by omega), if_pos (by omega), if_pos (by omega), if_pos (by omega), if_pos q1]
    have e3 : ((decide (a = b)) == ((a : Int) == (b : Int))) = true := by
      by_cases h : a = b
      · subst h; simp
      · have : ¬ (a : Int) = b := by omega
        simp [h, this]
    rw [if_pos e3, if_neg (by simp), if_neg (by simp)]
theorem names_l0 (x2 x3 x4 : Int) (h20 : 0 ≤ x2) (h21 : x2 < 256) (a0 a1 : List Int) (N : Nat) (hN : N < 16) : ∀ (d i k : Nat), i + d = N → d + 100 ≤ k →
    broadsidelaw3_TupleNames.l0 k x2 x3 x4 (qs i) (N : Int) i a0 a1 = some true
  | 0, i, k, h, hk => by
    obtain ⟨k, rfl⟩ : ∃ q, k = q + 1 := ⟨k - 1, by omega⟩
    obtain ⟨n, rfl⟩ := Int.eq_ofNat_of_zero_le h20
    obtain ⟨l, el, hT⟩ := tup_nice a0 a1 k (by omega)
    have hq := name_up (qs_name i (by omega)) k (by omega)
    have hb := name_up (byte_name n (by omega)) k (by omega)
    have hR := right_char hT k (by omega)
    have hj := names_j1 l hT x3 x4 k (by omega)
    have hz : 1 + (strOfNums [(n : Int)]).size ≤ 9223372036854775807 := by rw [strOfNums_size]; simp
    rw [broadsidelaw3_TupleNames.l0, if_neg (by omega), el, Option.bind_some, hq, Option.bind_some, qs_size]
    simp only [Option.bind_some, hb, hR, Bool.not_true, hj, if_pos hz]
    split
    · rename_i h1
      rw [if_neg (by have e : decide (1 ≤ i ∧ i ≤ 12) = decide ((i : Int) ≤ 12) := by congr 1; exact propext ⟨fun h => by omega, fun h => by omega⟩
                     rw [e]; simp)]
      split
      · rename_i h2
        rw [if_neg (by have e : decide (97 ≤ n ∧ n ≤ 122) = decide ((n : Int) ≤ 122) := by congr 1; exact propext ⟨fun h => by omega, fun h => by omega⟩
                       rw [e]; simp)]
      · rename_i h2
        rw [if_neg (by simp; omega)]
    · rename_i h1
      rw [if_neg (by simp; omega)]
      split
      · rename_i h2
        rw [if_neg (by have e : decide (97 ≤ n ∧ n ≤ 122) = decide ((n : Int) ≤ 122) := by congr 1; exact propext ⟨fun h => by omega, fun h => by omega⟩
                       rw [e]; simp)]
      · rename_i h2
        rw [if_neg (by simp; omega)]
  | d + 1, i, k, h, hk => by
    obtain ⟨k, rfl⟩ : ∃ q, k = q + 1 := ⟨k - 1, by omega⟩
    rw [broadsidelaw3_TupleNames.l0, if_pos (by omega), if_pos (by rw [qs_size]; omega), wrap_nat i (by omega)]
    exact names_l0 x2 x3 x4 h20 h21 a0 a1 N hN d (i + 1) k (by omega) (by omega)
theorem names_true (a0 a1 : List Int) (n x2 x3 x4 : Int) (h20 : 0 ≤ x2) (h21 : x2 < 256) : ∃ k, broadsidelaw3_TupleNames.f k a0 a1 n x2 x3 x4 = some true := by
  refine ⟨200, ?_⟩
  unfold broadsidelaw3_TupleNames.f
  rw [fo_within _ _ (by omega) (by omega), Option.bind_some]
  have q0 : 0 ≤ n % (15 + 1) := Int.emod_nonneg _ (by omega)
  have q1 : n % (15 + 1) < 16 := by have := Int.emod_lt_of_pos n (b := 15 + 1) (by omega); omega
  generalize n % (15 + 1) = q at q0 q1 ⊢
  obtain ⟨N, rfl⟩ := Int.eq_ofNat_of_zero_le q0
  exact names_l0 x2 x3 x4 h20 h21 a0 a1 N (by omega) N 0 200 (by omega) (by omega)
theorem names_calls (A0_0 : Option Addr) (c0_0 : Nat) (l0_0 : List Int) (A0_1 : Option Addr) (c0_1 : Nat) (l0_1 : List Int) (a1 a2 a3 a4 : Int) (w : World) (HTAB : Aside0 (Val.Tab w)) (hr0_0 : Kd.C (Kd.int .i64) w A0_0 l0_0.length l0_0) (hc0_0 : l0_0.length ≤ c0_0) (hr0_1 : Kd.C (Kd.int .i64) w A0_1 l0_1.length l0_1) (hc0_1 : l0_1.length ≤ c0_1) (hB : 0 ≤ a2 ∧ a2 ≤ 255) :
    Calls Tryz.prog 4 #[.agg #[.slice A0_0 l0_0.length c0_0, .slice A0_1 l0_1.length c0_1], .int .i64 a1, .int .u8 a2, .int .i64 a3, .int .i64 a4] w fun e w' => e = .returned (.bool true) ∧ Below w.heap.size w w' := by
  obtain ⟨k, hk⟩ := names_true l0_0 l0_1 a1 a2 a3 a4 hB.1 (by have := hB.2; omega)
  exact broadsidelaw3_TupleNames.calls k A0_0 c0_0 l0_0 A0_1 c0_1 l0_1 a1 a2 a3 a4 true w HTAB ⟨rfl⟩ hr0_0 hc0_0 hr0_1 hc0_1 hk
end Go.Proofs.YtgdieejhglhkcaaGreatDoor.MTup
