import Derived.Test.YtallbobeehbkoaaBoxesF
namespace Go.Proofs.Ytallbobeehbkoaa.Boxes
open Go.RowKit Go.Proofs.YtallbobeehbkoaaW.PrintWords Go.Proofs.Ytallbobeehbkoaa.PInboxPlays

theorem value_some (t : Int) : ∃ p : Bool × Int × ByteArray, broadsidekeep_Value.f t = some p := by
  unfold broadsidekeep_Value.f
  split
  · rw [within_is _ 9 (by omega) (by omega)]
    exact ⟨_, rfl⟩
  · unfold broadsidekeep_texts.f
    rw [within_is _ 6 (by omega) (by omega)]
    have h1 := Int.emod_nonneg (wrap64 (t.tdiv 2)) (show (6 + 1 : Int) ≠ 0 by omega)
    have h2 := Int.emod_lt_of_pos (wrap64 (t.tdiv 2)) (show (0 : Int) < 6 + 1 by omega)
    simp only [Option.bind_some]
    rw [if_pos h1, if_pos (by simpa using h2)]
    exact ⟨_, rfl⟩
theorem pick_some (l : List Int) (a : Int) (h : 0 ≤ a) : ∃ r, broadsidekeep_pick.f l a = some r := by
  unfold broadsidekeep_pick.f
  split
  · exact ⟨_, rfl⟩
  · rename_i hl
    have h1 := Int.tmod_nonneg (l.length : Int) h
    have h2 := Int.tmod_lt_of_pos a (b := (l.length : Int)) (by omega)
    rw [if_pos h1, if_pos h2]
    exact ⟨_, rfl⟩
theorem tup_stop (k : Nat) (x3 : List S54) (x6 : List ByteArray) (a b : List Int) (n i : Int) (h : ¬ i < n) : broadsidekeep_Tuple_Tuple.l0 (k + 1) x3 x6 n i a b = some x3 := by
  rw [broadsidekeep_Tuple_Tuple.l0, if_neg h]
theorem tup_step (k : Nat) (x3 : List S54) (x6 : List ByteArray) (a b : List Int) (n i : Int) (h : i < n) (h0 : 0 ≤ i) (h1 : i < (x6.length : Int)) :
    ∃ c : Bool, (c = true → (x3.length : Int) < 5) ∧ broadsidekeep_Tuple_Tuple.l0 (k + 1) x3 x6 n i a b = broadsidekeep_Tuple_Tuple.j1 k x3 i (rdOf ByteArray.empty x6 i) x6 n i c a b := by
  rw [broadsidekeep_Tuple_Tuple.l0, if_pos h, if_pos h0, if_pos h1]
  split
  · split
    · exact ⟨_, fun h => by simpa using h, rfl⟩
    · exact ⟨false, fun h => by simp at h, rfl⟩
  · exact ⟨false, fun h => by simp at h, rfl⟩
theorem tup_next (k : Nat) (x3 : List S54) (s : ByteArray) (x6 : List ByteArray) (a b : List Int) (n i : Int) (c : Bool) (h0 : 0 ≤ i) (hl : x3.length ≤ 5) (hc : c = true → (x3.length : Int) < 5) :
    ∃ x3' : List S54, x3'.length ≤ 5 ∧ broadsidekeep_Tuple_Tuple.j1 (k + 1) x3 i s x6 n i c a b = broadsidekeep_Tuple_Tuple.l0 k x3' x6 n (wrap64 (i + 1)) a b := by
  rw [broadsidekeep_Tuple_Tuple.j1]
  cases c
  · exact ⟨x3, hl, by rw [if_neg (by simp)]⟩
  · have h5 := hc rfl
    obtain ⟨t, ht⟩ := pick_some b i h0
    obtain ⟨p, hp⟩ := value_some t
    rw [if_pos rfl, ht]
    simp only [Option.bind_some]
    rw [hp]
    simp only [Option.bind_some]
    rw [if_pos (by omega)]
    exact ⟨_, by rw [List.length_append, List.length_singleton]; omega, rfl⟩
theorem tup_all (x6 : List ByteArray) (a b : List Int) (hx : x6.length ≤ 1000) : ∀ (d i k : Nat) (x3 : List S54), i + d = x6.length → 2 * d + 1 ≤ k → x3.length ≤ 5 → ∃ r, broadsidekeep_Tuple_Tuple.l0 k x3 x6 x6.length i a b = some r ∧ r.length ≤ 5 := by
  intro d
  induction d with
  | zero =>
    intro i k x3 h hk hl
    obtain ⟨k, rfl⟩ : ∃ q, k = q + 1 := ⟨k - 1, by omega⟩
    exact ⟨x3, tup_stop k x3 x6 a b _ _ (by omega), hl⟩
  | succ d ih =>
    intro i k x3 h hk hl
    obtain ⟨k, rfl⟩ : ∃ q, k = q + 1 + 1 := ⟨k - 2, by omega⟩
    obtain ⟨c, hc, e1⟩ := tup_step (k + 1) x3 x6 a b (x6.length : Int) (i : Int) (by omega) (by omega) (by omega)
    obtain ⟨y, hy, e2⟩ := tup_next k x3 (rdOf ByteArray.empty x6 i) x6 a b (x6.length : Int) (i : Int) c (by omega) hl hc
    rw [e1, e2, wrap_up i (by omega)]
    exact ih (i + 1) k y (by omega) (by omega) hy
theorem tuple_total (a b : List Int) : ∃ k r, broadsidekeep_Tuple_Tuple.f k a b = some r ∧ r.length ≤ 5 := by
  unfold broadsidekeep_Tuple_Tuple.f broadsidekeep_Names.f
  obtain ⟨r, h, hr⟩ := tup_all [(⟨#[97]⟩ : ByteArray), (⟨#[98]⟩ : ByteArray), (⟨#[99]⟩ : ByteArray), (⟨#[100]⟩ : ByteArray), (⟨#[101]⟩ : ByteArray), (⟨#[102]⟩ : ByteArray), (⟨#[103]⟩ : ByteArray)] a b (by simp) 7 0 15 [] rfl (by omega) (by simp)
  exact ⟨15, r, h, hr⟩
end Go.Proofs.Ytallbobeehbkoaa.Boxes
