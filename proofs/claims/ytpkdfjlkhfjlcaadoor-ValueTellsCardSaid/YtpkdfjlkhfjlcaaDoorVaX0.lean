import Derived.Test.YtpkdfjlkhfjlcaaDoorVaT
import Derived.Test.YtpkdfjlkhfjlcaaDoorVaQ
import Derived.Test.YtpkdfjlkhfjlcaaDoorVaRp
import Derived.BigRegion
namespace Go.Proofs.YtpkdfjlkhfjlcaaDoor.MVal
open Go.RowKit Go.Proofs.YtpkdfjlkhfjlcaaDoorW.PrintWords Go.Proofs.YtpkdfjlkhfjlcaaDoorW.PrintLast Go.Proofs.YtpkdfjlkhfjlcaaDoorW.PrintMore
attribute [local go_sem] max2_int min2_int max_two min_two max_three min_three max_four min_four   -- for this text's walks alone
set_option linter.unusedVariables false
set_option linter.unusedSimpArgs false
theorem cut15 (s : ByteArray) : ∃ (m : Int) (S : ByteArray), (if 15 < (s.size : Int) then 15 else (s.size : Int)) = m ∧ S.size ≤ 15 ∧ ∀ w, (Instr.slice 9 (.string s) none (some (.int .i64 m)) none).run Tryd.prog w = .ok (.string S) w := by
  obtain ⟨m, hm⟩ : ∃ m : Int, (if 15 < (s.size : Int) then 15 else (s.size : Int)) = m := ⟨_, rfl⟩
  have hm0 : 0 ≤ m := by rw [← hm]; split <;> omega
  have hm1 : m ≤ 15 := by rw [← hm]; split <;> omega
  have hm2 : m ≤ (s.size : Int) := by rw [← hm]; split <;> omega
  refine ⟨m, s.extract 0 m.toNat, hm, by simp [ByteArray.size_extract]; omega, fun w => ?_⟩
  have hm0c := decide_eq_true hm0
  have hm2c := decide_eq_true hm2
  have hm0b := eq_true hm0
  have hm2b := eq_true hm2
  go_simp

end Go.Proofs.YtpkdfjlkhfjlcaaDoor.MVal
