-- Written by a program of this session (wip/tools), out of the translation. Not trusted: Lean checks it.
import Derived.Test.YtgdieejhglhkcaaGreatDoorMTupx0
namespace Go.Proofs.YtgdieejhglhkcaaGreatDoor.MTup
open Go.RowKit Go.Proofs.YtgdieejhglhkcaaGreatDoorW.PrintWords Go.Proofs.YtgdieejhglhkcaaGreatDoorW.PrintLast Go.Proofs.YtgdieejhglhkcaaGreatDoorW.PrintMore
attribute [local go_sem] max2_int min2_int max_two min_two max_three min_three max_four min_four   -- for this text's walks alone
set_option linter.unusedVariables false
set_option linter.unusedSimpArgs false

theorem eqA23 (d : Nat) (w : World) (x0 y0 : Bool) (x1 y1 : Int) (x2 y2 : ByteArray) :
    (Op.equalIn (d + 2) 23 (.agg #[.bool x0, .int .i64 x1, .string x2]) (.agg #[.bool y0, .int .i64 y1, .string y2])).run Tryz.prog w = .ok (x0 == y0 && (x1 == y1 && (x2.toList == y2.toList))) w := by
  refine eqA_of Tryz.underlying23 (by kernel_rfl) ?_
  refine eqf_cons (by rfl) (by go_simp; rfl) (by go_simp; rfl) (by go_simp) ?_
  refine eqf_cons (by rfl) (by go_simp; rfl) (by go_simp; rfl) (by go_simp) ?_
  exact eqf_last (by rfl) (by go_simp; rfl) (by go_simp; rfl) (by go_simp)
end Go.Proofs.YtgdieejhglhkcaaGreatDoor.MTup
