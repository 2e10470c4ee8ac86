import Derived.Test.YtfabnapjbgamaaaRelG
import Derived.Test.YtfabnapjbgamaaaRelH
namespace Go.Proofs.Ytfabnapjbgamaaa.MRelTrue
open Go.RowKit Go.Lib Go.Proofs.YtfabnapjbgamaaaW.PrintWords Go.Proofs.YtfabnapjbgamaaaW.PrintLast Go.Proofs.YtfabnapjbgamaaaW.PrintMore
set_option linter.unusedVariables false
set_option linter.unusedSimpArgs false
/-! ### RelOne: function 6 -/
abbrev num40 (n : Int) : S40 := ⟨false, n, (⟨#[]⟩ : ByteArray)⟩
abbrev txt40 (s : ByteArray) : S40 := ⟨true, 0, s⟩
def nums (k : Nat) : List S40 := (List.range k).map (fun n : Nat => num40 ((n : Int) - 2))
def strs : List ByteArray := [⟨#[]⟩, ⟨#[120]⟩, ⟨#[120, 121]⟩, ⟨#[120, 121, 122]⟩, ⟨#[120, 122]⟩, ⟨#[121]⟩, ⟨#[121, 121]⟩, ⟨#[121, 121, 121]⟩, ⟨#[120, 121, 122, 122]⟩, ⟨#[120, 120]⟩, ⟨#[121, 120]⟩, ⟨#[122]⟩, ⟨#[120, 122, 113]⟩]
def mts (HA HB : S40 → Bool) (l : List S40) : Bool := l.any (fun x => HA x && HB x)
def cvs (HA HB : S40 → Bool) (l : List S40) : Bool := l.all (fun x => HA x || !HB x)
theorem nums_succ (k : Nat) : nums (k + 1) = nums k ++ [num40 ((k : Int) - 2)] := by simp [nums, List.range_succ]
theorem mts_snoc (HA HB : S40 → Bool) (l : List S40) (x : S40) : mts HA HB (l ++ [x]) = (mts HA HB l || (HA x && HB x)) := by simp [mts]
theorem cvs_snoc (HA HB : S40 → Bool) (l : List S40) (x : S40) : cvs HA HB (l ++ [x]) = (cvs HA HB l && (HA x || !HB x)) := by simp [cvs]
def texts40 (k : Nat) : List S40 := (strs.take k).map txt40
theorem texts_succ (k : Nat) (h : k < 13) : texts40 (k + 1) = texts40 k ++ [txt40 (strs.getD k ⟨#[]⟩)] := by
  unfold texts40
  have h2 : k < strs.length := h
  rw [List.take_add_one, List.getD_eq_getElem?_getD, List.getElem?_eq_getElem h2, List.map_append]
  rfl
theorem litOne {α : Type} (d : Kd α) {W : World} {g t : Nat} {x : α} {cs : List Value} (hK : d.K W x cs) (h : W.heap[g]? = some (.cells cs.toArray t (0, 0))) : d.C W (some ⟨g, 0, none⟩) 1 [x] := by
  refine ⟨rfl, by omega, fun _ => ⟨⟨g, 0, none⟩, rfl, fun j p hj => ?_⟩⟩
  have hj0 : j = 0 := by
    have := (List.getElem?_eq_some_iff.1 hj).1
    simp at this
    exact this
  subst hj0
  have hp : x = p := by simpa using hj
  subst hp
  refine ⟨cs, d.K_len hK, hK, fun i u hu => ?_⟩
  rw [Go.Proofs.YtfabnapjbgamaaaW.PrintWords.add_plain, blk_cell h]
  simpa using hu
theorem one23 {W : World} {g : Nat} (x : S23) (h : W.heap[g]? = some (.cells (enc23 x).toArray 23 (0, 0))) : Kd.C k23 W (some ⟨g, 0, none⟩) 1 [x] := litOne k23 (k23.K_of_M (k23_mkM W 0 (fun _ => True) x)) h
theorem one42 {W : World} {g : Nat} (x : S42) (h : W.heap[g]? = some (.cells [.string x.f0, .bool x.f1.f0, .int .i64 x.f1.f1, .string x.f1.f2].toArray 42 (0, 0))) : Kd.C k42 W (some ⟨g, 0, none⟩) 1 [x] := litOne k42 (k42.K_of_M (k42_mkM W 0 (fun _ => True) x)) h
theorem match_n (k : Nat) (A0 : Option Addr) (n0 c0 : Nat) (l0 : List (S23)) (e0 : l0.length = n0) (A1 : Option Addr) (n1 c1 : Nat) (l1 : List (S42)) (e1 : l1.length = n1) (r : Bool) (w : World) (hr0 : Kd.C k23 w A0 n0 l0) (hc0 : n0 ≤ c0) (hr1 : Kd.C k42 w A1 n1 l1) (hc1 : n1 ≤ c1) (h : rel_Match.f k l0 l1 = some r) :
    Calls Try.prog 14 #[.slice A0 n0 c0, .slice A1 n1 c1] w fun e w' => e = .returned (.bool r) ∧ Below w.heap.size w w' := by
  subst e0
  subst e1
  exact rel_Match.calls k A0 c0 l0 A1 c1 l1 r w hr0 hc0 hr1 hc1 h
/-! ### RelOne: the plain law -/
def preB (p s : ByteArray) : Bool := decide (p.size ≤ s.size) && ((s.extract 0 p.size).toList == p.toList)
theorem pre_f (s p : ByteArray) : strings_HasPrefix.f s p = some (preB p s) := by
  unfold strings_HasPrefix.f stringslite_HasPrefix.f preB
  by_cases h : p.size ≤ s.size
  · rw [if_pos (by omega), if_pos (by omega), if_pos (by omega)]
    simp [h]
  · rw [if_neg (by omega)]
    simp [h]
theorem beg_f (s p : ByteArray) : broadsideref1_begins.f s p = some (preB p s) := by
  unfold broadsideref1_begins.f preB
  by_cases h : p.size ≤ s.size
  · rw [if_pos (by omega), if_pos (by omega), if_pos (by omega)]
    simp [h]
  · rw [if_neg (by omega)]
    simp [h]
def H1 (c : S23) (x : S40) : Bool := if c.f1 = 1 then (!x.f0 && (decide (c.f2 ≤ x.f1) && decide (x.f1 ≤ c.f3))) else if c.f1 = 2 then (x.f0 && (x.f2.toList == c.f4.toList)) else if c.f1 = 3 then (x.f0 && preB c.f4 x.f2) else false
theorem holds_f (c : S23) (x : S40) : pred_Holds.f c.f0 c.f1 c.f2 c.f3 c.f4 x.f0 x.f1 x.f2 = some (H1 c x) := by
  unfold pred_Holds.f H1
  cases hx : x.f0
  · by_cases h1 : c.f1 = 1
    · simp only [h1, if_true]
      by_cases h2 : c.f2 ≤ x.f1 <;> simp [h2]
    · by_cases h2 : c.f1 = 2
      · simp [h2]
      · by_cases h3 : c.f1 = 3 <;> simp [h1, h2, h3]
  · by_cases h1 : c.f1 = 1
    · simp [h1]
    · by_cases h2 : c.f1 = 2
      · simp [h2]
      · by_cases h3 : c.f1 = 3 <;> simp [h1, h2, h3, pre_f]
theorem ref_f (c : S23) (x : S40) : broadsideref1_Holds.f c.f0 c.f1 c.f2 c.f3 c.f4 x.f0 x.f1 x.f2 = some (H1 c x) := by
  unfold broadsideref1_Holds.f H1
  cases hx : x.f0
  · by_cases h1 : c.f1 = 1
    · simp only [h1, if_true]
      by_cases h2 : c.f2 ≤ x.f1 <;> simp [h2]
    · by_cases h2 : c.f1 = 2
      · simp [h2]
      · by_cases h3 : c.f1 = 3 <;> simp [h1, h2, h3]
  · by_cases h1 : c.f1 = 1
    · simp [h1]
    · by_cases h2 : c.f1 = 2
      · simp [h2]
      · by_cases h3 : c.f1 = 3 <;> simp [h1, h2, h3, beg_f]
theorem match_one (c : S23) (nm : ByteArray) (x : S40) : rel_Match.f 5 [c] [⟨nm, x⟩] = some (if nm.toList = c.f0.toList then H1 c x else false) := by
  have hh := holds_f c x
  by_cases h : nm.toList = c.f0.toList
  · cases hb : H1 c x <;> rw [hb] at hh <;> simp [rel_Match.f, rel_Match.l0, tuple_Get.f, tuple_Get.l0, rd_T23, rd_T42, hh, h, hb, Go.RowKit.wrap64]
  · simp [rel_Match.f, rel_Match.l0, tuple_Get.f, tuple_Get.l0, rd_T23, rd_T42, h, Go.RowKit.wrap64]
abbrev aa : ByteArray := ⟨#[97]⟩
def rng (lo hi : Int) : S23 := ⟨aa, 1, lo, hi, ⟨#[]⟩⟩
def tcs : List S23 := (fo_tx.map fun t => (⟨aa, 2, 0, 0, t⟩ : S23)) ++ (fo_tx.map fun t => (⟨aa, 3, 0, 0, t⟩ : S23))
theorem con_vals (n : Int) : ∃ c : S23, broadsidekeep_Constraint.f aa n = some (c.f0, c.f1, c.f2, c.f3, c.f4) ∧ ((∃ lo hi, 0 ≤ lo ∧ lo ≤ 9 ∧ lo ≤ hi ∧ hi ≤ 18 ∧ c = rng lo hi) ∨ c ∈ tcs) := by
  unfold broadsidekeep_Constraint.f
  rw [fo_within n 3 (by omega) (by omega), fo_within _ 9 (by omega) (by omega), fo_within _ 9 (by omega) (by omega), fo_within _ 6 (by omega) (by omega)]
  generalize wrap64 (Int.tdiv n 4) = x
  generalize wrap64 (Int.tdiv n 40) = y
  simp only [Option.bind_some]
  by_cases ht : n % (3 + 1) = 0 ∨ n % (3 + 1) = 1
  · rw [if_pos ht]
    refine ⟨rng (x % (9 + 1)) (x % (9 + 1) + y % (9 + 1)), rfl, .inl ⟨_, _, ?_, ?_, ?_, ?_, rfl⟩⟩ <;> omega
  · rw [if_neg ht]
    have hr : x % (6 + 1) = 0 ∨ x % (6 + 1) = 1 ∨ x % (6 + 1) = 2 ∨ x % (6 + 1) = 3 ∨ x % (6 + 1) = 4 ∨ x % (6 + 1) = 5 ∨ x % (6 + 1) = 6 := by omega
    have hm : rdOf ByteArray.empty fo_tx (x % (6 + 1)) ∈ fo_tx := by
      rcases hr with h | h | h | h | h | h | h <;> rw [h] <;> simp [rdOf, fo_tx]
    generalize rdOf ByteArray.empty fo_tx (x % (6 + 1)) = t at hm
    by_cases h2 : n % (3 + 1) = 2
    · rw [if_pos h2]
      exact ⟨⟨aa, 2, 0, 0, t⟩, rfl, .inr (List.mem_append.2 (.inl (List.mem_map.2 ⟨t, hm, rfl⟩)))⟩
    · rw [if_neg h2]
      exact ⟨⟨aa, 3, 0, 0, t⟩, rfl, .inr (List.mem_append.2 (.inr (List.mem_map.2 ⟨t, hm, rfl⟩)))⟩
theorem tcs_kind {c : S23} (h : c ∈ tcs) : c.f0 = aa ∧ (c.f1 = 2 ∨ c.f1 = 3) := by
  rcases List.mem_append.1 h with h | h <;> obtain ⟨t, _, rfl⟩ := List.mem_map.1 h
  · exact ⟨rfl, .inl rfl⟩
  · exact ⟨rfl, .inr rfl⟩
abbrev smp : List S40 := nums 25 ++ texts40 13
theorem mem_num (n : Int) (h0 : -2 ≤ n) (h1 : n ≤ 22) : num40 n ∈ smp := by
  refine List.mem_append.2 (.inl (List.mem_map.2 ⟨(n + 2).toNat, List.mem_range.2 (by omega), ?_⟩))
  show num40 (((n + 2).toNat : Int) - 2) = num40 n
  rw [show (((n + 2).toNat : Int) - 2) = n by omega]
theorem smp_cases {x : S40} (h : x ∈ smp) : (∃ n, x = num40 n) ∨ ∃ s, x = txt40 s := by
  rcases List.mem_append.1 h with h | h
  · obtain ⟨k, _, rfl⟩ := List.mem_map.1 h
    exact .inl ⟨_, rfl⟩
  · obtain ⟨s, _, rfl⟩ := List.mem_map.1 h
    exact .inr ⟨s, rfl⟩
theorem rng_num (lo hi n : Int) : H1 (rng lo hi) (num40 n) = (decide (lo ≤ n) && decide (n ≤ hi)) := rfl
theorem rng_txt (lo hi : Int) (s : ByteArray) : H1 (rng lo hi) (txt40 s) = false := by simp [H1, rng]
theorem tcs_num {c : S23} (h : c ∈ tcs) (n : Int) : H1 c (num40 n) = false := by
  rcases (tcs_kind h).2 with e | e <;> simp [H1, e]
theorem tcs_some {c : S23} (h : c ∈ tcs) : ∃ x ∈ smp, H1 c x = true ∧ ∃ s, x = txt40 s := by
  have hd : (tcs.all fun c => (texts40 13).any fun x => H1 c x) = true := by kernel_rfl
  have h1 := List.all_eq_true.1 hd c h
  obtain ⟨x, hx, hh⟩ := List.any_eq_true.1 h1
  obtain ⟨s, _, e⟩ := List.mem_map.1 hx
  exact ⟨x, List.mem_append.2 (.inr hx), hh, s, e.symm⟩
theorem mts_iff (HA HB : S40 → Bool) (l : List S40) (b : Bool) (h : b = true ↔ ∃ x ∈ l, HA x = true ∧ HB x = true) : mts HA HB l = b := by
  unfold mts
  rw [Bool.eq_iff_iff, List.any_eq_true, h]
  simp
theorem cvs_iff (HA HB : S40 → Bool) (l : List S40) (b : Bool) (h : b = true ↔ ∀ x ∈ l, HB x = true → HA x = true) : cvs HA HB l = b := by
  unfold cvs
  rw [Bool.eq_iff_iff, List.all_eq_true, h]
  constructor
  · intro h x hx hb
    have := h x hx
    rw [hb] at this
    simpa using this
  · intro h x hx
    cases hb : HB x
    · simp
    · simp [h x hx hb]
theorem sample_one (r : S23) : ∃ s, rel_Sample.f 10 [r] = some s := by
  by_cases h : r.f1 = 1
  · exact ⟨_, by simp [rel_Sample.f, rel_Sample.l0, value_Text.f, value_Number.f, rd_T23, h, Go.RowKit.wrap64]; rfl⟩
  · exact ⟨_, by simp [rel_Sample.f, rel_Sample.l0, value_Text.f, value_Number.f, rd_T23, h, Go.RowKit.wrap64]; rfl⟩
theorem meets_one (a b : S23) (ha : a.f0 = aa) (hb : b.f0 = aa) (ra : pred_RightOne.f 10 a.f0 a.f1 a.f2 a.f3 a.f4 = some true) (rb : pred_RightOne.f 10 b.f0 b.f1 b.f2 b.f3 b.f4 = some true) (r : S23) (ok : Bool) (h : mk.both a b = some (r, ok)) :
    rel_Meets.f 10 [a] [b] = some ok := by
  have hcb : cmpB aa aa = 0 := cmpB_self _
  have hm0 : mk.met [] a.f0 = false := by simp [mk.met]
  have hc0 : mk.cnt [] a.f0 = 0 := by simp [mk.cnt]
  have hc1 : mk.cnt [a] b.f0 = 0 := by rw [hb]; simp [mk.cnt, ha, hcb]
  have hm1 : mk.met [a] b.f0 = true := by unfold mk.met; rw [hc1, hb]; simp [ha, hcb]
  have hmk : pred_Make.f 10 [a, b] = some (if ok = true then some [r] else none) := by
    unfold pred_Make.f
    rw [mk.l1, ra]
    simp only [Option.bind_some, if_true]
    rw [mk.l1, rb]
    simp only [Option.bind_some, if_true]
    rw [mk.l1]
    simp only [Option.bind_some, if_true]
    rw [mk.l2, if_neg (by simp [hm0]), if_neg (by simp), hc0]
    show mk.l2 [a] [b] = _
    rw [mk.l2, if_pos hm1, hc1]
    show (mk.both a b).bind _ = _
    rw [h]
    cases ok
    · rfl
    · rfl
  unfold rel_Meets.f rel_Joint.f
  rw [if_pos (by simp)]
  show ((pred_Make.f 10 [a, b]).bind _).bind _ = _
  rw [hmk]
  cases ok
  · rfl
  · obtain ⟨s, hs⟩ := sample_one r
    simp [hs]
theorem covers_one (a b : S23) (ha : a.f0 = aa) (hb : b.f0 = aa) : rel_Covers.f [a] [b] = rel_wider.f a.f0 a.f1 a.f2 a.f3 a.f4 b.f0 b.f1 b.f2 b.f3 b.f4 := by
  have h1 : cov.okB [a] = true := by
    unfold cov.okB
    have hs : aa.size ≤ maxLen := by decide
    simp [ha, hs]
  have h2 : cov.okB [b] = true := by
    unfold cov.okB
    have hs : aa.size ≤ maxLen := by decide
    simp [hb, hs]
  have h3 : cov.last [b] a.f0 = some b := by simp [cov.last, ha, hb]
  unfold rel_Covers.f
  rw [h1, h2]
  simp only [Bool.and_self, if_true]
  rw [cov.go, h3]
  simp only
  cases hw : rel_wider.f a.f0 a.f1 a.f2 a.f3 a.f4 b.f0 b.f1 b.f2 b.f3 b.f4 with
  | none => rfl
  | some v => cases v <;> rfl
theorem right_rng (lo hi : Int) (h : lo ≤ hi) : pred_RightOne.f 10 (rng lo hi).f0 (rng lo hi).f1 (rng lo hi).f2 (rng lo hi).f3 (rng lo hi).f4 = some true := by
  have hn : tuple_Name.f 10 aa = some true := by kernel_rfl
  unfold pred_RightOne.f
  show (tuple_Name.f 10 aa).bind _ = _
  rw [hn]
  simp [rng, h]
theorem right_tcs {c : S23} (h : c ∈ tcs) : pred_RightOne.f 10 c.f0 c.f1 c.f2 c.f3 c.f4 = some true := by
  have hd : (tcs.all fun c => pred_RightOne.f 10 c.f0 c.f1 c.f2 c.f3 c.f4 == some true) = true := by kernel_rfl
  simpa using List.all_eq_true.1 hd c h
theorem both_tt : (tcs.all fun a => tcs.all fun b => rel_Meets.f 10 [a] [b] == some (mts (H1 a) (H1 b) smp)) = true := by kernel_rfl
theorem cov_tt : (tcs.all fun a => tcs.all fun b => rel_Covers.f [a] [b] == some (cvs (H1 a) (H1 b) smp)) = true := by kernel_rfl
theorem one_meets (a b : S23) (ha : (∃ lo hi, 0 ≤ lo ∧ lo ≤ 9 ∧ lo ≤ hi ∧ hi ≤ 18 ∧ a = rng lo hi) ∨ a ∈ tcs) (hb : (∃ lo hi, 0 ≤ lo ∧ lo ≤ 9 ∧ lo ≤ hi ∧ hi ≤ 18 ∧ b = rng lo hi) ∨ b ∈ tcs) :
    rel_Meets.f 10 [a] [b] = some (mts (H1 a) (H1 b) smp) := by
  rcases ha with ⟨l1, h1, p1, p2, p3, p4, rfl⟩ | ha <;> rcases hb with ⟨l2, h2, q1, q2, q3, q4, rfl⟩ | hb
  · have hm : mts (H1 (rng l1 h1)) (H1 (rng l2 h2)) smp = decide (mx l1 l2 ≤ mn h1 h2) := by
      refine mts_iff _ _ _ _ ?_
      rw [decide_eq_true_eq]
      constructor
      · intro h
        refine ⟨num40 (mx l1 l2), mem_num _ ?_ ?_, ?_, ?_⟩
        · unfold mx; split <;> omega
        · unfold mx; split <;> omega
        · rw [rng_num]; unfold mx mn at *; simp; split at h <;> split at h <;> omega
        · rw [rng_num]; unfold mx mn at *; simp; split at h <;> split at h <;> omega
      · rintro ⟨x, hx, h3, h4⟩
        rcases smp_cases hx with ⟨n, rfl⟩ | ⟨s, rfl⟩
        · rw [rng_num] at h3 h4
          simp at h3 h4
          unfold mx mn
          split <;> split <;> omega
        · rw [rng_txt] at h3
          cases h3
    rw [hm]
    by_cases h : mx l1 l2 ≤ mn h1 h2
    · rw [decide_eq_true h]
      refine meets_one _ _ rfl rfl (right_rng _ _ p3) (right_rng _ _ q3) (rng (mx l1 l2) (mn h1 h2)) true ?_
      simp [mk.both, pred_Both.f, pred_Both.core, rng, Int.not_lt.2 h]
    · rw [decide_eq_false h]
      refine meets_one _ _ rfl rfl (right_rng _ _ p3) (right_rng _ _ q3) z23 false ?_
      simp [mk.both, pred_Both.f, pred_Both.core, pred_Both.none_, rng, Int.not_le.1 h, z23]
  · have hm : mts (H1 (rng l1 h1)) (H1 b) smp = false := by
      refine mts_iff _ _ _ _ ⟨fun h => (by cases h), ?_⟩
      rintro ⟨x, hx, h3, h4⟩
      rcases smp_cases hx with ⟨n, rfl⟩ | ⟨s, rfl⟩
      · rw [tcs_num hb] at h4; cases h4
      · rw [rng_txt] at h3; cases h3
    rw [hm]
    obtain ⟨e0, e1⟩ := tcs_kind hb
    refine meets_one _ _ rfl e0 (right_rng _ _ p3) (right_tcs hb) z23 false ?_
    rcases e1 with e1 | e1 <;> simp [mk.both, pred_Both.f, pred_Both.core, pred_Both.none_, rng, e1, z23]
  · have hm : mts (H1 a) (H1 (rng l2 h2)) smp = false := by
      refine mts_iff _ _ _ _ ⟨fun h => (by cases h), ?_⟩
      rintro ⟨x, hx, h3, h4⟩
      rcases smp_cases hx with ⟨n, rfl⟩ | ⟨s, rfl⟩
      · rw [tcs_num ha] at h3; cases h3
      · rw [rng_txt] at h4; cases h4
    rw [hm]
    obtain ⟨e0, e1⟩ := tcs_kind ha
    refine meets_one _ _ e0 rfl (right_tcs ha) (right_rng _ _ q3) z23 false ?_
    rcases e1 with e1 | e1 <;> simp [mk.both, pred_Both.f, pred_Both.core, pred_Both.none_, rng, e1, z23]
  · simpa using List.all_eq_true.1 (List.all_eq_true.1 both_tt a ha) b hb
theorem one_covers (a b : S23) (ha : (∃ lo hi, 0 ≤ lo ∧ lo ≤ 9 ∧ lo ≤ hi ∧ hi ≤ 18 ∧ a = rng lo hi) ∨ a ∈ tcs) (hb : (∃ lo hi, 0 ≤ lo ∧ lo ≤ 9 ∧ lo ≤ hi ∧ hi ≤ 18 ∧ b = rng lo hi) ∨ b ∈ tcs) :
    rel_Covers.f [a] [b] = some (cvs (H1 a) (H1 b) smp) := by
  rcases ha with ⟨l1, h1, p1, p2, p3, p4, rfl⟩ | ha <;> rcases hb with ⟨l2, h2, q1, q2, q3, q4, rfl⟩ | hb
  · have hm : cvs (H1 (rng l1 h1)) (H1 (rng l2 h2)) smp = decide (l1 ≤ l2 ∧ h2 ≤ h1) := by
      refine cvs_iff _ _ _ _ ?_
      rw [decide_eq_true_eq]
      constructor
      · intro h x hx hh
        rcases smp_cases hx with ⟨n, rfl⟩ | ⟨s, rfl⟩
        · rw [rng_num] at hh ⊢
          simp at hh ⊢
          omega
        · rw [rng_txt] at hh; cases hh
      · intro h
        have a1 := h (num40 l2) (mem_num _ (by omega) (by omega)) (by rw [rng_num]; simp; omega)
        have a2 := h (num40 h2) (mem_num _ (by omega) (by omega)) (by rw [rng_num]; simp; omega)
        rw [rng_num] at a1 a2
        simp at a1 a2
        omega
    rw [hm, covers_one _ _ rfl rfl]
    show (if l1 ≤ l2 then some (decide (h2 ≤ h1)) else some false) = _
    by_cases h : l1 ≤ l2
    · rw [if_pos h]
      congr 1
      rw [Bool.eq_iff_iff, decide_eq_true_eq, decide_eq_true_eq]
      exact ⟨fun x => ⟨h, x⟩, fun x => x.2⟩
    · rw [if_neg h]
      congr 1
      rw [eq_comm, decide_eq_false_iff_not]
      exact fun x => h x.1
  · have hm : cvs (H1 (rng l1 h1)) (H1 b) smp = false := by
      refine cvs_iff _ _ _ _ ⟨fun h => (by cases h), fun h => ?_⟩
      obtain ⟨x, hx, hh, s, rfl⟩ := tcs_some hb
      have := h _ hx hh
      rw [rng_txt] at this
      cases this
    obtain ⟨e0, e1⟩ := tcs_kind hb
    rw [hm, covers_one _ _ rfl e0]
    have hh := holds_f (rng l1 h1) (txt40 b.f4)
    rw [rng_txt] at hh
    unfold rel_wider.f
    rcases e1 with e1 | e1
    · have hh2 : pred_Holds.f (rng l1 h1).f0 (rng l1 h1).f1 (rng l1 h1).f2 (rng l1 h1).f3 (rng l1 h1).f4 true 0 b.f4 = some false := hh
      simp [e1, value_Text.f, hh2]
    · simp [rng, e1]
  · have hm : cvs (H1 a) (H1 (rng l2 h2)) smp = false := by
      refine cvs_iff _ _ _ _ ⟨fun h => (by cases h), fun h => ?_⟩
      have := h (num40 l2) (mem_num _ (by omega) (by omega)) (by rw [rng_num]; simp; omega)
      rw [tcs_num ha] at this
      cases this
    obtain ⟨e0, e1⟩ := tcs_kind ha
    rw [hm, covers_one _ _ e0 rfl]
    unfold rel_wider.f
    rcases e1 with e1 | e1 <;> simp [rng, e1]
  · simpa using List.all_eq_true.1 (List.all_eq_true.1 cov_tt a ha) b hb
theorem value_vals (n : Int) : ∃ v : S40, broadsidekeep_Value.f n = some (v.f0, v.f1, v.f2) := by
  unfold broadsidekeep_Value.f
  rw [fo_within _ 9 (by omega) (by omega), fo_within _ 6 (by omega) (by omega)]
  by_cases h : Go.bits .and .i64 n 1 = 0
  · rw [if_pos h]
    exact ⟨⟨_, _, _⟩, rfl⟩
  · rw [if_neg h]
    unfold broadsidekeep_texts.f
    simp only [Option.bind_some]
    rw [if_pos (by omega), if_pos (by simp; omega)]
    exact ⟨⟨_, _, _⟩, rfl⟩
/-! ### constraints: what they say of the samples -/
def isC (c : S23) : Prop := (∃ lo hi, 0 ≤ lo ∧ lo ≤ 9 ∧ lo ≤ hi ∧ hi ≤ 18 ∧ c = rng lo hi) ∨ c ∈ tcs
def strip (c : S23) : S23 := ⟨aa, c.f1, c.f2, c.f3, c.f4⟩
/-- A constraint of any name. -/
def okC (c : S23) : Prop := isC (strip c)
theorem H1_strip (c : S23) : H1 (strip c) = H1 c := rfl
theorem wider_strip (a b : S23) : rel_wider.f a.f0 a.f1 a.f2 a.f3 a.f4 b.f0 b.f1 b.f2 b.f3 b.f4 = rel_wider.f aa a.f1 a.f2 a.f3 a.f4 aa b.f1 b.f2 b.f3 b.f4 := rfl
theorem fin_snd (a0 : ByteArray) (a1 a2 a3 : Int) (a4 b0 : ByteArray) (b1 b2 b3 : Int) (b4 c0 d0 : ByteArray) : (pred_Both.fin a0 a1 a2 a3 a4 b0 b1 b2 b3 b4).map (fun r => r.2.2.2.2.2) = (pred_Both.fin c0 a1 a2 a3 a4 d0 b1 b2 b3 b4).map (fun r => r.2.2.2.2.2) := by
  unfold pred_Both.fin
  show ((pred_Holds.f b0 b1 b2 b3 b4 true 0 a4).bind _).map _ = ((pred_Holds.f b0 b1 b2 b3 b4 true 0 a4).bind _).map _
  cases pred_Holds.f b0 b1 b2 b3 b4 true 0 a4 with
  | none => rfl
  | some v => cases v <;> rfl
theorem core_snd (a0 : ByteArray) (a1 a2 a3 : Int) (a4 b0 : ByteArray) (b1 b2 b3 : Int) (b4 c0 d0 : ByteArray) : (pred_Both.core a0 a1 a2 a3 a4 b0 b1 b2 b3 b4).map (fun r => r.2.2.2.2.2) = (pred_Both.core c0 a1 a2 a3 a4 d0 b1 b2 b3 b4).map (fun r => r.2.2.2.2.2) := by
  unfold pred_Both.core
  by_cases h1 : a1 = 1
  · rw [if_pos h1, if_pos h1]
    by_cases h2 : b1 = 1
    · rw [if_pos h2, if_pos h2]
      by_cases h3 : mx a2 b2 > mn a3 b3
      · rw [if_pos h3, if_pos h3]
      · rw [if_neg h3, if_neg h3]; rfl
    · rw [if_neg h2, if_neg h2]
  · rw [if_neg h1, if_neg h1]
    by_cases h2 : a1 = 3
    · rw [if_pos h2, if_pos h2]
      by_cases h3 : a4.size < b4.size
      · rw [if_pos h3, if_pos h3]; exact fin_snd _ _ _ _ _ _ _ _ _ _ _ _
      · rw [if_neg h3, if_neg h3]; exact fin_snd _ _ _ _ _ _ _ _ _ _ _ _
    · rw [if_neg h2, if_neg h2]
      by_cases h3 : a1 = 2
      · rw [if_pos h3, if_pos h3]; exact fin_snd _ _ _ _ _ _ _ _ _ _ _ _
      · rw [if_neg h3, if_neg h3]
theorem both_strip (a b : S23) : (mk.both a b).map (·.2) = (mk.both (strip a) (strip b)).map (·.2) := by
  unfold mk.both strip
  rw [Option.map_map, Option.map_map]
  show (pred_Both.f a.f0 a.f1 a.f2 a.f3 a.f4 b.f0 b.f1 b.f2 b.f3 b.f4).map (fun r => r.2.2.2.2.2) = (pred_Both.f aa a.f1 a.f2 a.f3 a.f4 aa b.f1 b.f2 b.f3 b.f4).map (fun r => r.2.2.2.2.2)
  unfold pred_Both.f
  by_cases h : a.f1 > b.f1
  · rw [if_pos h, if_pos h]; exact core_snd _ _ _ _ _ _ _ _ _ _ _ _
  · rw [if_neg h, if_neg h]; exact core_snd _ _ _ _ _ _ _ _ _ _ _ _
theorem tt_both : (tcs.all fun a => tcs.all fun b => (mk.both a b).map (·.2) == some (mts (H1 a) (H1 b) smp)) = true := by kernel_rfl
theorem both_C (a b : S23) (ha : isC a) (hb : isC b) : (mk.both a b).map (·.2) = some (mts (H1 a) (H1 b) smp) := by
  have hm := one_meets a b ha hb
  rcases ha with ⟨l1, h1, p1, p2, p3, p4, rfl⟩ | ha <;> rcases hb with ⟨l2, h2, q1, q2, q3, q4, rfl⟩ | hb
  · by_cases h : mx l1 l2 ≤ mn h1 h2
    · have e : mk.both (rng l1 h1) (rng l2 h2) = some (rng (mx l1 l2) (mn h1 h2), true) := by simp [mk.both, pred_Both.f, pred_Both.core, rng, Int.not_lt.2 h]
      have := meets_one _ _ rfl rfl (right_rng _ _ p3) (right_rng _ _ q3) _ _ e
      rw [hm] at this
      rw [e]
      simpa using this.symm
    · have e : mk.both (rng l1 h1) (rng l2 h2) = some (z23, false) := by simp [mk.both, pred_Both.f, pred_Both.core, pred_Both.none_, rng, Int.not_le.1 h, z23]
      have := meets_one _ _ rfl rfl (right_rng _ _ p3) (right_rng _ _ q3) _ _ e
      rw [hm] at this
      rw [e]
      simpa using this.symm
  · obtain ⟨e0, e1⟩ := tcs_kind hb
    have e : mk.both (rng l1 h1) b = some (z23, false) := by rcases e1 with e1 | e1 <;> simp [mk.both, pred_Both.f, pred_Both.core, pred_Both.none_, rng, e1, z23]
    have := meets_one _ _ rfl e0 (right_rng _ _ p3) (right_tcs hb) _ _ e
    rw [hm] at this
    rw [e]
    simpa using this.symm
  · obtain ⟨e0, e1⟩ := tcs_kind ha
    have e : mk.both a (rng l2 h2) = some (z23, false) := by rcases e1 with e1 | e1 <;> simp [mk.both, pred_Both.f, pred_Both.core, pred_Both.none_, rng, e1, z23]
    have := meets_one _ _ e0 rfl (right_tcs ha) (right_rng _ _ q3) _ _ e
    rw [hm] at this
    rw [e]
    simpa using this.symm
  · simpa using List.all_eq_true.1 (List.all_eq_true.1 tt_both a ha) b hb
/-- Two constraints have something in common; one holds wherever the other one does. -/
def okB (a b : S23) : Bool := mts (H1 a) (H1 b) smp
def widB (a b : S23) : Bool := cvs (H1 a) (H1 b) smp
theorem both_ok (a b : S23) (ha : okC a) (hb : okC b) : ∃ r, mk.both a b = some (r, okB a b) := by
  have h := both_C _ _ ha hb
  rw [← both_strip] at h
  obtain ⟨⟨r, v⟩, h1, h2⟩ := Option.map_eq_some_iff.1 h
  refine ⟨r, ?_⟩
  rw [h1]
  have h3 : v = okB a b := h2
  rw [h3]
theorem isC_name {c : S23} (h : isC c) : c.f0 = aa := by
  rcases h with ⟨_, _, _, _, _, _, rfl⟩ | h
  · rfl
  · exact (tcs_kind h).1
theorem wider_ok (a b : S23) (ha : okC a) (hb : okC b) : rel_wider.f a.f0 a.f1 a.f2 a.f3 a.f4 b.f0 b.f1 b.f2 b.f3 b.f4 = some (widB a b) := by
  have h := one_covers _ _ ha hb
  rw [covers_one _ _ rfl rfl] at h
  exact h
theorem okB_iff (a b : S23) : okB a b = true ↔ ∃ x ∈ smp, H1 a x = true ∧ H1 b x = true := by
  unfold okB mts
  rw [List.any_eq_true]
  simp
theorem widB_iff (a b : S23) : widB a b = true ↔ ∀ x ∈ smp, H1 b x = true → H1 a x = true := by
  unfold widB cvs
  rw [List.all_eq_true]
  constructor
  · intro h x hx hb
    have := h x hx
    rw [hb] at this
    simpa using this
  · intro h x hx
    cases hb : H1 b x
    · simp
    · simp [h x hx hb]
theorem okB_comm (a b : S23) : okB a b = okB b a := by
  rw [Bool.eq_iff_iff, okB_iff, okB_iff]
  exact ⟨fun ⟨x, h, h1, h2⟩ => ⟨x, h, h2, h1⟩, fun ⟨x, h, h1, h2⟩ => ⟨x, h, h2, h1⟩⟩
theorem widB_refl (a : S23) : widB a a = true := (widB_iff a a).2 (fun _ _ h => h)
theorem widB_trans {a b c : S23} (h : widB a b = true) (k : widB b c = true) : widB a c = true := (widB_iff a c).2 (fun x hx hc => (widB_iff a b).1 h x hx ((widB_iff b c).1 k x hx hc))
theorem okB_wid {a b c : S23} (h : widB a b = true) (k : okB b c = true) : okB a c = true := by
  obtain ⟨x, hx, h1, h2⟩ := (okB_iff b c).1 k
  exact (okB_iff a c).2 ⟨x, hx, (widB_iff a b).1 h x hx h1, h2⟩
theorem okB_self {a : S23} (h : okC a) : okB a a = true := by
  rw [okB_iff]
  rcases h with ⟨lo, hi, p1, p2, p3, p4, e⟩ | h
  · refine ⟨num40 lo, mem_num _ (by omega) (by omega), ?_⟩
    rw [← H1_strip, e, rng_num]
    simp [p3]
  · obtain ⟨x, hx, hh, _⟩ := tcs_some h
    exact ⟨x, hx, hh, hh⟩
theorem tt_anti : (tcs.all fun a => tcs.all fun b => !(cvs (H1 a) (H1 b) smp && cvs (H1 b) (H1 a) smp) || (decide (a.f1 = b.f1) && (a.f4.toList == b.f4.toList))) = true := by kernel_rfl
theorem tcs_form {c : S23} (h : c ∈ tcs) : c.f0 = aa ∧ c.f2 = 0 ∧ c.f3 = 0 := by
  rcases List.mem_append.1 h with h | h <;> obtain ⟨t, _, rfl⟩ := List.mem_map.1 h <;> exact ⟨rfl, rfl, rfl⟩
theorem toList_inj {a b : ByteArray} (h : a.toList = b.toList) : a = b := by
  rw [ByteArray.toList_eq, ByteArray.toList_eq] at h
  exact ba_ext h
theorem isC_anti {a b : S23} (ha : isC a) (hb : isC b) (h : widB a b = true) (k : widB b a = true) : a = b := by
  rw [widB_iff] at h k
  rcases ha with ⟨l1, h1, p1, p2, p3, p4, rfl⟩ | ha <;> rcases hb with ⟨l2, h2, q1, q2, q3, q4, rfl⟩ | hb
  · have a1 := h (num40 l2) (mem_num _ (by omega) (by omega)) (by rw [rng_num]; simp; omega)
    have a2 := h (num40 h2) (mem_num _ (by omega) (by omega)) (by rw [rng_num]; simp; omega)
    have a3 := k (num40 l1) (mem_num _ (by omega) (by omega)) (by rw [rng_num]; simp; omega)
    have a4 := k (num40 h1) (mem_num _ (by omega) (by omega)) (by rw [rng_num]; simp; omega)
    rw [rng_num] at a1 a2 a3 a4
    simp at a1 a2 a3 a4
    have e1 : l1 = l2 := by omega
    have e2 : h1 = h2 := by omega
    rw [e1, e2]
  · obtain ⟨x, hx, hh, s, rfl⟩ := tcs_some hb
    have := h _ hx hh
    rw [rng_txt] at this
    cases this
  · obtain ⟨x, hx, hh, s, rfl⟩ := tcs_some ha
    have := k _ hx hh
    rw [rng_txt] at this
    cases this
  · have hd := List.all_eq_true.1 (List.all_eq_true.1 tt_anti a ha) b hb
    have w1 : cvs (H1 a) (H1 b) smp = true := (widB_iff a b).2 h
    have w2 : cvs (H1 b) (H1 a) smp = true := (widB_iff b a).2 k
    rw [w1, w2] at hd
    simp at hd
    obtain ⟨x0, x2, x3⟩ := tcs_form ha
    obtain ⟨y0, y2, y3⟩ := tcs_form hb
    cases a; cases b
    simp at x0 x2 x3 y0 y2 y3 hd
    subst x0 x2 x3 y0 y2 y3
    obtain ⟨e1, e2⟩ := hd
    subst e1
    rw [toList_inj e2]
theorem okC_anti {a b : S23} (ha : okC a) (hb : okC b) (hn : a.f0 = b.f0) (h : widB a b = true) (k : widB b a = true) : a = b := by
  have e := isC_anti ha hb h k
  cases a; cases b
  simp [strip] at e hn
  simp [e, hn]
end Go.Proofs.Ytfabnapjbgamaaa.MRelTrue
