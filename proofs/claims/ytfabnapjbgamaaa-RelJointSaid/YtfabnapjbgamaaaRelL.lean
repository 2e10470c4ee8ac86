import Derived.Test.YtfabnapjbgamaaaRelK
import Derived.Test.YtfabnapjbgamaaaMRelTruex3
namespace Go.Proofs.Ytfabnapjbgamaaa.MRelTrue
open Go.RowKit Go.Lib Go.Proofs.YtfabnapjbgamaaaW.PrintWords Go.Proofs.YtfabnapjbgamaaaW.PrintLast Go.Proofs.YtfabnapjbgamaaaW.PrintMore
set_option linter.unusedVariables false
set_option linter.unusedSimpArgs false
/-! ### Pred of numbers is nice -/
theorem con_any (s : ByteArray) (n : Int) : ∃ c : S23, broadsidekeep_Constraint.f s n = some (s, c.f1, c.f2, c.f3, c.f4) ∧ isC c := by
  obtain ⟨c, h, hc⟩ := con_vals n
  refine ⟨c, ?_, hc⟩
  have e : broadsidekeep_Constraint.f s n = (broadsidekeep_Constraint.f aa n).map (fun r => (s, r.2)) := by
    unfold broadsidekeep_Constraint.f
    rw [fo_within n 3 (by omega) (by omega), fo_within _ 9 (by omega) (by omega), fo_within _ 9 (by omega) (by omega), fo_within _ 6 (by omega) (by omega)]
    simp only [Option.bind_some]
    split
    · rfl
    · rfl
  rw [e, h]
  rfl
theorem pick_some (l : List Int) (a : Int) (h : 0 ≤ a) : ∃ r, broadsidekeep_pick.f l a = some r := by
  unfold broadsidekeep_pick.f
  split
  · exact ⟨_, rfl⟩
  · rename_i hl
    have h1 := Int.tmod_nonneg (l.length : Int) h
    have h2 := Int.tmod_lt_of_pos a (b := (l.length : Int)) (by omega)
    rw [if_pos h1, if_pos h2]
    exact ⟨_, rfl⟩
theorem nms_rise : ∀ i, i < 7 → ∀ j, j < i → cmpB (nms.getD j ⟨#[]⟩) (nms.getD i ⟨#[]⟩) < 0 := by
  have hd : ((List.range 7).all fun i => (List.range i).all fun j => decide (cmpB (nms.getD j ⟨#[]⟩) (nms.getD i ⟨#[]⟩) < 0)) = true := by kernel_rfl
  intro i hi j hj
  have := List.all_eq_true.1 (List.all_eq_true.1 hd i (List.mem_range.2 hi)) j (List.mem_range.2 hj)
  simpa using this
structure PI (i : Nat) (x3 : List S23) : Prop where
  rises : Rises x3
  ok : ∀ c ∈ x3, okC c
  len : x3.length ≤ 5
  name : ∀ c ∈ x3, ∃ j, j < i ∧ c.f0 = nms.getD j ⟨#[]⟩
theorem prd_step (k : Nat) (x3 : List S23) (a b : List Int) (i : Nat) (h : i < 7) :
    ∃ c : Bool, (c = true → (x3.length : Int) < 5) ∧ broadsidekeep_Pred_Pred.l0 (k + 1) x3 nms (nms.length : Int) i a b = broadsidekeep_Pred_Pred.j1 k x3 i (rdOf ByteArray.empty nms i) nms (nms.length : Int) i c a b := by
  have h7 : (nms.length : Int) = 7 := rfl
  rw [broadsidekeep_Pred_Pred.l0, if_pos (by omega), if_pos (by omega), if_pos (by omega)]
  split
  · split
    · exact ⟨_, fun h => by simpa using h, rfl⟩
    · exact ⟨false, fun h => by simp at h, rfl⟩
  · exact ⟨false, fun h => by simp at h, rfl⟩
theorem prd_next (k : Nat) (x3 : List S23) (a b : List Int) (i : Nat) (c : Bool) (hi : i < 7) (hI : PI i x3) (hc : c = true → (x3.length : Int) < 5) :
    ∃ x3' : List S23, PI (i + 1) x3' ∧ broadsidekeep_Pred_Pred.j1 (k + 1) x3 i (rdOf ByteArray.empty nms i) nms (nms.length : Int) i c a b = broadsidekeep_Pred_Pred.l0 k x3' nms (nms.length : Int) (wrap64 ((i : Int) + 1)) a b := by
  rw [broadsidekeep_Pred_Pred.j1]
  cases c
  · exact ⟨x3, { hI with name := fun c hc => by obtain ⟨j, h1, h2⟩ := hI.name c hc; exact ⟨j, by omega, h2⟩ }, by rw [if_neg (by simp)]⟩
  · have h5 := hc rfl
    obtain ⟨t, ht⟩ := pick_some b i (by omega)
    obtain ⟨q, hq, hqc⟩ := con_any (rdOf ByteArray.empty nms i) t
    rw [if_pos rfl, ht]
    simp only [Option.bind_some]
    rw [hq]
    simp only [Option.bind_some]
    rw [if_pos (by omega)]
    have hnm : rdOf ByteArray.empty nms (i : Int) = nms.getD i ⟨#[]⟩ := by unfold rdOf; rw [Int.toNat_natCast]; rfl
    refine ⟨_, { rises := rises_mk hI.rises (fun x hx => ?_), ok := fun x hx => ?_, len := by simp; omega, name := fun x hx => ?_ }, rfl⟩
    · obtain ⟨j, h1, h2⟩ := hI.name x hx
      rw [h2]
      show cmpB _ (rdOf ByteArray.empty nms i) < 0
      rw [hnm]
      exact nms_rise i hi j h1
    · rcases List.mem_append.1 hx with h | h
      · exact hI.ok x h
      · simp only [List.mem_singleton] at h
        subst h
        unfold okC strip
        have := isC_name hqc
        cases q
        simp only at this
        subst this
        exact hqc
    · rcases List.mem_append.1 hx with h | h
      · obtain ⟨j, h1, h2⟩ := hI.name x h
        exact ⟨j, by omega, h2⟩
      · simp only [List.mem_singleton] at h
        subst h
        exact ⟨i, by omega, hnm⟩
theorem prd_all (a b : List Int) : ∀ (d i k : Nat) (x3 : List S23), i + d = 7 → 2 * d + 1 ≤ k → PI i x3 → ∃ r, broadsidekeep_Pred_Pred.l0 k x3 nms (nms.length : Int) i a b = some r ∧ PI 7 r
  | 0, i, k, x3, h, hk, hI => by
    obtain ⟨k, rfl⟩ : ∃ q, k = q + 1 := ⟨k - 1, by omega⟩
    have h7 : (nms.length : Int) = 7 := rfl
    obtain rfl : i = 7 := by omega
    exact ⟨x3, by rw [broadsidekeep_Pred_Pred.l0, if_neg (by omega)], hI⟩
  | d + 1, i, k, x3, h, hk, hI => by
    obtain ⟨k, rfl⟩ : ∃ q, k = q + 1 + 1 := ⟨k - 2, by omega⟩
    obtain ⟨c, hc, e1⟩ := prd_step (k + 1) x3 a b i (by omega)
    obtain ⟨y, hy, e2⟩ := prd_next k x3 a b i c (by omega) hI hc
    rw [e1, e2, show wrap64 ((i : Int) + 1) = ((i + 1 : Nat) : Int) by unfold wrap64; omega]
    exact prd_all a b d (i + 1) k y (by omega) (by omega) hy
theorem pred_nice (a b : List Int) : ∃ r, broadsidekeep_Pred_Pred.f 20 a b = some r ∧ Nice nms r := by
  obtain ⟨r, h, hr⟩ := prd_all a b 7 0 20 [] rfl (by omega) ⟨rises_nil, fun c hc => by simp at hc, Nat.zero_le _, fun c hc => by simp at hc⟩
  refine ⟨r, h, { rises := hr.rises, ok := hr.ok, len := hr.len, name := fun c hc => ?_ }⟩
  obtain ⟨j, h1, h2⟩ := hr.name c hc
  rw [h2, List.getD_eq_getElem?_getD, List.getElem?_eq_getElem (show j < nms.length from h1)]
  exact List.getElem_mem _
end Go.Proofs.Ytfabnapjbgamaaa.MRelTrue
