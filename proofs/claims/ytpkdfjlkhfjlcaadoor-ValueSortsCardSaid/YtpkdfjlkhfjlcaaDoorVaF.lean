import Derived.Test.YtpkdfjlkhfjlcaaDoorVaM1
import Derived.Test.YtpkdfjlkhfjlcaaDoorVaE
namespace Go.Proofs.YtpkdfjlkhfjlcaaDoor.MVal
open Go.RowKit Go.Proofs.YtpkdfjlkhfjlcaaDoorW.PrintWords Go.Proofs.YtpkdfjlkhfjlcaaDoorW.PrintLast Go.Proofs.YtpkdfjlkhfjlcaaDoorW.PrintMore
attribute [local go_sem] max2_int min2_int max_two min_two max_three min_three max_four min_four   -- for this text's walks alone
set_option linter.unusedVariables false
set_option linter.unusedSimpArgs false

/-- value.Say in the printer's form: it wants the table of strconv's. -/
def value_Say.f (a0_0 : Bool) (a0_1 : Int) (a0_2 : ByteArray) : Option ByteArray :=
  if a0_0 = true then (if a0_2.size ≤ 15 then some (Val.quote a0_2) else none) else (if -9223372036854775808 ≤ a0_1 then (if a0_1 ≤ 9223372036854775807 then some (Val.itoa a0_1) else none) else none)
theorem value_Say.calls (a0_0 : Bool) (a0_1 : Int) (a0_2 : ByteArray) (r : ByteArray) (w : World) (ht : Aside0 (Val.Tab w)) (h : value_Say.f a0_0 a0_1 a0_2 = some r) :
    Calls Tryd.prog 29 #[.agg #[.bool a0_0, .int .i64 a0_1, .string a0_2]] w fun e w' => e = .returned (.string r) ∧ Below w.heap.size w w' := by
  unfold value_Say.f at h
  cases a0_0
  · rw [if_neg (by simp)] at h
    split at h
    · split at h
      · obtain rfl := Option.some.inj h
        exact Val.Say_int a0_1 a0_2 ‹_› ‹_› w ht.out
      · cases h
    · cases h
  · rw [if_pos rfl] at h
    split at h
    · obtain rfl := Option.some.inj h
      exact Val.Say_text a0_1 a0_2 ‹_› w
    · cases h
end Go.Proofs.YtpkdfjlkhfjlcaaDoor.MVal
