import Derived.Test.YtfabnapjbgamaaaGreatDoorMx0
import Derived.Test.YtfabnapjbgamaaaGreatDoorPrA
namespace Go.Proofs.YtfabnapjbgamaaaGreatDoor.MPred
open Go.RowKit Go.Lib Go.Proofs.YtfabnapjbgamaaaGreatDoorW.PrintWords Go.Proofs.YtfabnapjbgamaaaGreatDoorW.PrintLast Go.Proofs.YtfabnapjbgamaaaGreatDoorW.PrintMore
set_option linter.unusedVariables false
set_option linter.unusedSimpArgs false
/-! ### what a constraint says of a value -/
def preB (p s : ByteArray) : Bool := decide (p.size ≤ s.size) && ((s.extract 0 p.size).toList == p.toList)
theorem pre_f (s p : ByteArray) : strings_HasPrefix.f s p = some (preB p s) := by
  unfold strings_HasPrefix.f stringslite_HasPrefix.f preB
  by_cases h : p.size ≤ s.size
  · rw [if_pos (by omega), if_pos (by omega), if_pos (by omega)]
    simp [h]
  · rw [if_neg (by omega)]
    simp [h]
structure S40 where
  f0 : Bool
  f1 : Int
  f2 : ByteArray
abbrev num40 (n : Int) : S40 := ⟨false, n, (⟨#[]⟩ : ByteArray)⟩
abbrev txt40 (s : ByteArray) : S40 := ⟨true, 0, s⟩
def H1 (c : S23) (x : S40) : Bool := if c.f1 = 1 then (!x.f0 && (decide (c.f2 ≤ x.f1) && decide (x.f1 ≤ c.f3))) else if c.f1 = 2 then (x.f0 && (x.f2.toList == c.f4.toList)) else if c.f1 = 3 then (x.f0 && preB c.f4 x.f2) else false
theorem holds_f (c : S23) (x : S40) : pred_Holds.f c.f0 c.f1 c.f2 c.f3 c.f4 x.f0 x.f1 x.f2 = some (H1 c x) := by
  unfold pred_Holds.f H1
  cases hx : x.f0
  · by_cases h1 : c.f1 = 1
    · simp only [h1, if_true]
      by_cases h2 : c.f2 ≤ x.f1 <;> simp [h2]
    · by_cases h2 : c.f1 = 2
      · simp [h2]
      · by_cases h3 : c.f1 = 3 <;> simp [h1, h2, h3]
  · by_cases h1 : c.f1 = 1
    · simp [h1]
    · by_cases h2 : c.f1 = 2
      · simp [h2]
      · by_cases h3 : c.f1 = 3 <;> simp [h1, h2, h3, pre_f]
theorem ext_pre (a b : ByteArray) : (a ++ b).extract 0 a.size = a := ByteArray.extract_append_eq_left rfl
theorem preB_app (a b : ByteArray) : preB a (a ++ b) = true := by
  unfold preB
  rw [ext_pre]
  simp [ByteArray.size_append]
end Go.Proofs.YtfabnapjbgamaaaGreatDoor.MPred
