import Derived.Test.YtpkdfjlkhfjlcaaDoorVaR
namespace Go.Proofs.YtpkdfjlkhfjlcaaDoor.MVal
open Go.RowKit Go.Proofs.YtpkdfjlkhfjlcaaDoorW.PrintWords Go.Proofs.YtpkdfjlkhfjlcaaDoorW.PrintLast Go.Proofs.YtpkdfjlkhfjlcaaDoorW.PrintMore
set_option linter.unusedVariables false
set_option linter.unusedSimpArgs false
abbrev fo_tx : List ByteArray := [(⟨#[]⟩ : ByteArray), (⟨#[120]⟩ : ByteArray), (⟨#[120, 121]⟩ : ByteArray), (⟨#[120, 121, 122]⟩ : ByteArray), (⟨#[120, 122]⟩ : ByteArray), (⟨#[121]⟩ : ByteArray), (⟨#[121, 121]⟩ : ByteArray)]
theorem fo_tmod (x h : Int) (h0 : 0 ≤ h) : -(h + 1) < x.tmod (h + 1) := by
  have := Int.tmod_lt_of_pos (-x) (b := h + 1) (by omega)
  rw [Int.neg_tmod] at this
  omega
theorem fo_within (x h : Int) (h0 : 0 ≤ h) (h1 : h ≤ 1000) : broadsidebook_Within.f x 0 h = some (x % (h + 1)) := by
  have e1 : wrap64 (wrap64 (h - 0) + 1) = h + 1 := by unfold wrap64; omega
  have ha := Int.tmod_lt_of_pos x (b := h + 1) (by omega)
  have hb := fo_tmod x h h0
  unfold broadsidebook_Within.f
  rw [e1, if_neg (by omega)]
  have em : x % (h + 1) = if x.tmod (h + 1) < 0 then x.tmod (h + 1) + h + 1 else x.tmod (h + 1) := by
    have hd := Int.tmod_add_mul_tdiv x (h + 1)
    split
    · rename_i hn
      have : x = (x.tmod (h + 1) + h + 1) + (h + 1) * (x.tdiv (h + 1) - 1) := by rw [Int.mul_sub]; omega
      rw [this, Int.add_mul_emod_self_left]
      rw [← this]
      exact Int.emod_eq_of_lt (by omega) (by omega)
    · rename_i hn
      have : x = x.tmod (h + 1) + (h + 1) * x.tdiv (h + 1) := by omega
      conv => lhs; rw [this, Int.add_mul_emod_self_left]
      exact Int.emod_eq_of_lt (by omega) (by omega)
  rw [em]
  split
  · congr 1; unfold wrap64; omega
  · congr 1; unfold wrap64; omega
def numV (n : Int) : S51 := ⟨false, n, ⟨#[]⟩⟩
def txtV (s : ByteArray) : S51 := ⟨true, 0, s⟩
def smpV : List S51 := [numV 0, numV 1, numV 2, numV 3, numV 4, numV 5, numV 6, numV 7, numV 8, numV 9] ++ fo_tx.map txtV
theorem vals_smp (n : Int) : ∃ v : S51, broadsidekeep_Value.f n = some (v.f0, v.f1, v.f2) ∧ v ∈ smpV := by
  unfold broadsidekeep_Value.f
  rw [fo_within _ 9 (by omega) (by omega), fo_within _ 6 (by omega) (by omega)]
  generalize wrap64 (Int.tdiv n 2) = x
  by_cases h : Go.bits .and .i64 n 1 = 0
  · rw [if_pos h]
    refine ⟨numV (x % (9 + 1)), rfl, List.mem_append.2 (.inl ?_)⟩
    have hr : x % (9 + 1) = 0 ∨ x % (9 + 1) = 1 ∨ x % (9 + 1) = 2 ∨ x % (9 + 1) = 3 ∨ x % (9 + 1) = 4 ∨ x % (9 + 1) = 5 ∨ x % (9 + 1) = 6 ∨ x % (9 + 1) = 7 ∨ x % (9 + 1) = 8 ∨ x % (9 + 1) = 9 := by omega
    rcases hr with h | h | h | h | h | h | h | h | h | h <;> rw [h] <;> simp
  · rw [if_neg h]
    unfold broadsidekeep_texts.f
    simp only [Option.bind_some]
    rw [if_pos (by omega), if_pos (by simp; omega)]
    refine ⟨txtV _, rfl, List.mem_append.2 (.inr (List.mem_map.2 ⟨_, ?_, rfl⟩))⟩
    have hr : x % (6 + 1) = 0 ∨ x % (6 + 1) = 1 ∨ x % (6 + 1) = 2 ∨ x % (6 + 1) = 3 ∨ x % (6 + 1) = 4 ∨ x % (6 + 1) = 5 ∨ x % (6 + 1) = 6 := by omega
    rcases hr with h | h | h | h | h | h | h <;> rw [h] <;> simp [rdOf, fo_tx]
def lessV (a b : S51) : Option Bool := value_Less.f a.f0 a.f1 a.f2 b.f0 b.f1 b.f2
def rightV (a : S51) : Option Bool := value_Right.f a.f0 a.f1 a.f2
def okB (o : Option Bool) (b : Bool) : Bool := match o with
  | some c => c == b
  | none => false
theorem okB_iff {o : Option Bool} {b : Bool} (h : okB o b = true) : o = some b := by
  cases o with
  | none => cases h
  | some c => simp only [okB, beq_iff_eq] at h; rw [h]
def ltB (a b : S51) : Bool := okB (lessV a b) true
theorem asym_all : (smpV.all fun a => smpV.all fun b => !(ltB a b) || !(ltB b a)) = true := by kernel_rfl
theorem le_trans_all : (smpV.all fun a => smpV.all fun b => smpV.all fun c => ltB b a || ltB c b || !(ltB c a)) = true := by kernel_rfl
/-- What the law's last condition asks of two neighbours p, v. -/
def badV (p v : S51) : Bool := (p.f0 && !v.f0) || (!v.f0 && decide (v.f1 < p.f1)) || (p.f0 && Op.bytesLess v.f2.toList p.f2.toList)
theorem bad_all : (smpV.all fun p => smpV.all fun v => ltB v p || !(badV p v)) = true := by kernel_rfl
def Sor (l : List S51) : Prop := l.Pairwise (fun a b => ltB b a = false) ∧ ∀ x ∈ l, x ∈ smpV
theorem lt_asym {a b : S51} (ha : a ∈ smpV) (hb : b ∈ smpV) (h : ltB a b = true) : ltB b a = false := by
  have := List.all_eq_true.1 (List.all_eq_true.1 asym_all a ha) b hb
  rw [h] at this
  simpa using this
theorem le_trans' {a b c : S51} (ha : a ∈ smpV) (hb : b ∈ smpV) (hc : c ∈ smpV) (h1 : ltB b a = false) (h2 : ltB c b = false) : ltB c a = false := by
  have := List.all_eq_true.1 (List.all_eq_true.1 (List.all_eq_true.1 le_trans_all a ha) b hb) c hc
  rw [h1, h2] at this
  simpa using this
theorem not_bad {p v : S51} (hp : p ∈ smpV) (hv : v ∈ smpV) (h : ltB v p = false) : badV p v = false := by
  have := List.all_eq_true.1 (List.all_eq_true.1 bad_all p hp) v hv
  rw [h] at this
  simpa using this
theorem sor_nil : Sor [] := ⟨List.Pairwise.nil, fun x h => by cases h⟩
/-- The insertion keeps the order: the row ends in a part l2 that v is ahead of; the last of l1, if any, v isn't ahead of. -/
theorem sor_ins {l1 l2 : List S51} {v : S51} (h : Sor (l1 ++ l2)) (hv : v ∈ smpV) (h2 : ∀ x ∈ l2, ltB v x = true) (h1 : ∀ x, l1.getLast? = some x → ltB v x = false) : Sor (l1 ++ v :: l2) := by
  obtain ⟨hp, hm⟩ := h
  rw [List.pairwise_append] at hp
  obtain ⟨p1, p2, p3⟩ := hp
  have hle : ∀ x ∈ l1, ltB v x = false := by
    intro x hx
    rcases List.eq_nil_or_concat l1 with rfl | ⟨m, y, rfl⟩
    · cases hx
    · have hy := h1 y (by simp)
      simp only [List.concat_eq_append, List.mem_append, List.mem_singleton] at hx
      rcases hx with hx | rfl
      · have hxy : ltB y x = false := by
          rw [List.concat_eq_append, List.pairwise_append] at p1
          exact p1.2.2 x hx y (by simp)
        exact le_trans' (hm x (by simp [hx])) (hm y (by simp)) hv hxy hy
      · exact hy
  refine ⟨?_, ?_⟩
  · rw [List.pairwise_append]
    refine ⟨p1, List.pairwise_cons.2 ⟨fun x hx => lt_asym hv (hm x (by simp [hx])) (h2 x hx), p2⟩, fun a ha b hb => ?_⟩
    rcases List.mem_cons.1 hb with rfl | hb
    · exact hle a ha
    · exact p3 a ha b hb
  · intro x hx
    rcases List.mem_append.1 hx with hx | hx
    · exact hm x (by simp [hx])
    · rcases List.mem_cons.1 hx with rfl | hx
      · exact hv
      · exact hm x (by simp [hx])
/-- In a row in order at most i are ahead of the one at i. -/
theorem ahead_le {l1 l2 : List S51} {v : S51} (h : Sor (l1 ++ v :: l2)) : ((l1 ++ v :: l2).filter (fun o => ltB o v)).length ≤ l1.length := by
  obtain ⟨hp, hm⟩ := h
  rw [List.pairwise_append, List.pairwise_cons] at hp
  have hv : v ∈ smpV := hm v (by simp)
  have hvv : ltB v v = false := by
    cases e : ltB v v
    · rfl
    · exact (lt_asym hv hv e).symm.trans e |>.symm ▸ rfl
  have e2 : (v :: l2).filter (fun o => ltB o v) = [] := by
    rw [List.filter_eq_nil_iff]
    intro x hx
    rcases List.mem_cons.1 hx with rfl | hx
    · simp [hvv]
    · simp [hp.2.1.1 x hx]
  rw [List.filter_append, e2, List.append_nil]
  exact List.length_filter_le _ _
theorem tot_all : (smpV.all fun a => smpV.all fun b => okB (lessV a b) (ltB a b)) = true := by kernel_rfl
end Go.Proofs.YtpkdfjlkhfjlcaaDoor.MVal
