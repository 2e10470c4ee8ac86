import Derived.Test.YtfabnapjbgamaaaRelL
import Derived.Test.YtfabnapjbgamaaaRelM
namespace Go.Proofs.Ytfabnapjbgamaaa.MRelTrue
open Go.RowKit Go.Lib Go.Proofs.YtfabnapjbgamaaaW.PrintWords Go.Proofs.YtfabnapjbgamaaaW.PrintLast Go.Proofs.YtfabnapjbgamaaaW.PrintMore
set_option linter.unusedVariables false
set_option linter.unusedSimpArgs false
/-! ### Same -/
theorem list_eq_iff (a b : List S23) : a = b ↔ a.length = b.length ∧ ∀ t, t < a.length → a.getD t z23 = b.getD t z23 := by
  constructor
  · rintro rfl
    exact ⟨rfl, fun _ _ => rfl⟩
  · rintro ⟨h1, h2⟩
    apply List.ext_getElem h1
    intro i hi hi2
    have := h2 i hi
    rw [List.getD_eq_getElem?_getD, List.getD_eq_getElem?_getD, List.getElem?_eq_getElem hi, List.getElem?_eq_getElem hi2] at this
    simpa using this
theorem same_cond (x y : S23) : ((!(x.f0.toList == y.f0.toList) || (!(x.f1 == y.f1) || (!(x.f2 == y.f2) || (!(x.f3 == y.f3) || (!(x.f4.toList == y.f4.toList)))))) = true) ↔ x ≠ y := by
  constructor
  · rintro h rfl
    simp at h
  · intro h
    apply Classical.byContradiction
    intro hn
    simp at hn
    obtain ⟨e0, e1, e2, e3, e4⟩ := hn
    apply h
    cases x; cases y
    simp only at e0 e1 e2 e3 e4
    rw [toList_inj e0, e1, e2, e3, toList_inj e4]
theorem same_l0 (a b : List S23) (hab : a.length = b.length) (hl : a.length ≤ 100) : ∀ (d i k : Nat), i + d = a.length → d + 1 ≤ k →
    ∃ r, api_Constraint_18.l0 k a b i = some r ∧ (r = true ↔ ∀ t, i ≤ t → t < a.length → a.getD t z23 = b.getD t z23)
  | 0, i, k, h, hk => by
    obtain ⟨k, rfl⟩ : ∃ q, k = q + 1 := ⟨k - 1, by omega⟩
    exact ⟨true, by rw [api_Constraint_18.l0, if_neg (by omega)], ⟨fun _ t h1 h2 => by omega, fun _ => rfl⟩⟩
  | d + 1, i, k, h, hk => by
    obtain ⟨k, rfl⟩ : ∃ q, k = q + 1 := ⟨k - 1, by omega⟩
    obtain ⟨r, ih, hr⟩ := same_l0 a b hab hl d (i + 1) k (by omega) (by omega)
    have ea : rd_T23 a (i : Int) = a.getD i z23 := by unfold rd_T23; rw [Int.toNat_natCast]
    have eb : rd_T23 b (i : Int) = b.getD i z23 := by unfold rd_T23; rw [Int.toNat_natCast]
    rw [api_Constraint_18.l0, if_pos (by omega), if_pos (by omega), if_pos (by omega), ea, eb]
    by_cases hc : a.getD i z23 = b.getD i z23
    · rw [if_neg (fun h2 => (same_cond _ _).1 h2 hc), show wrap64 ((i : Int) + 1) = ((i + 1 : Nat) : Int) by unfold wrap64; omega]
      refine ⟨r, ih, hr.trans ⟨fun h2 t h3 h4 => ?_, fun h2 t h3 h4 => h2 t (by omega) h4⟩⟩
      rcases Nat.lt_or_ge i t with h5 | h5
      · exact h2 t h5 h4
      · obtain rfl : t = i := by omega
        exact hc
    · rw [if_pos ((same_cond _ _).2 hc)]
      exact ⟨false, rfl, ⟨fun h2 => (by cases h2), fun h2 => absurd (h2 i (Nat.le_refl _) (by omega)) hc⟩⟩
theorem same_char (a b : List S23) (ha : a.length ≤ 5) : ∃ r, api_Constraint_18.f 10 a b = some r ∧ (r = true ↔ a = b) := by
  unfold api_Constraint_18.f
  by_cases h : a.length = b.length
  · rw [if_pos (by omega)]
    obtain ⟨r, h1, h2⟩ := same_l0 a b h (by omega) a.length 0 10 (by omega) (by omega)
    refine ⟨r, h1, h2.trans ?_⟩
    rw [list_eq_iff]
    exact ⟨fun h3 => ⟨h, fun t ht => h3 t (Nat.zero_le _) ht⟩, fun h3 t _ ht => h3.2 t ht⟩
  · rw [if_neg (by omega)]
    exact ⟨false, rfl, ⟨fun h2 => (by cases h2), fun h2 => absurd (by rw [h2]) h⟩⟩
/-- What the law asks of three nice lists. -/
theorem laws_same {a b : List S23} (ha : Nice nms a) (hb : Nice nms b) : api_Constraint_18.f 10 a b = some (cv a b && cv b a) := by
  obtain ⟨r, h1, h2⟩ := same_char a b ha.len
  rw [h1]
  congr 1
  rw [Bool.eq_iff_iff, h2, Bool.and_eq_true]
  constructor
  · rintro rfl
    exact ⟨cv_refl ha.rises, cv_refl ha.rises⟩
  · rintro ⟨h3, h4⟩
    exact cv_anti ha.rises hb.rises ha.ok hb.ok h3 h4
end Go.Proofs.Ytfabnapjbgamaaa.MRelTrue
