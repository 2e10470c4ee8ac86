import Derived.Test.YtpkdfjlkhfjlcaaDoorVaR
import Derived.Test.YtpkdfjlkhfjlcaaDoorWEqStruct
import Derived.Deep.CutBlock
namespace Go.Proofs.YtpkdfjlkhfjlcaaDoor.MVal
open Go.RowKit Go.Proofs.YtpkdfjlkhfjlcaaDoorW.PrintWords Go.Proofs.YtpkdfjlkhfjlcaaDoorW.PrintLast
set_option linter.unusedVariables false
theorem eqA51 (d : Nat) (w : World) (x0 y0 : Bool) (x1 y1 : Int) (x2 y2 : ByteArray) :
    (Op.equalIn (d + 2) 51 (.agg #[.bool x0, .int .i64 x1, .string x2]) (.agg #[.bool y0, .int .i64 y1, .string y2])).run Tryd.prog w = .ok (x0 == y0 && (x1 == y1 && (x2.toList == y2.toList))) w := by
  refine eqA_of Tryd.underlying51 (by kernel_rfl) ?_
  refine eqf_cons (by rfl) (by go_simp; rfl) (by go_simp; rfl) (by go_simp) ?_
  refine eqf_cons (by rfl) (by go_simp; rfl) (by go_simp; rfl) (by go_simp) ?_
  exact eqf_last (by rfl) (by go_simp; rfl) (by go_simp; rfl) (by go_simp)
def eqV (x0 : Bool) (x1 : Int) (x2 : ByteArray) (y0 : Bool) (y1 : Int) (y2 : ByteArray) : Bool := x0 == y0 && (x1 == y1 && (x2.toList == y2.toList))
theorem eq51 (x0 : Bool) (x1 : Int) (x2 : ByteArray) (y0 : Bool) (y1 : Int) (y2 : ByteArray) (w : World) : (binOp .eql 51 (.agg #[.bool x0, .int .i64 x1, .string x2]) (.agg #[.bool y0, .int .i64 y1, .string y2])).run Tryd.prog w = .ok (.bool (eqV x0 x1 x2 y0 y1 y2)) w := by
  have h := eqA51 9998 w x0 y0 x1 y1 x2 y2
  unfold eqV
  simp only [binOp]
  simp [Op.equal, Op.maxDepth, h]
theorem neq51 (x0 : Bool) (x1 : Int) (x2 : ByteArray) (y0 : Bool) (y1 : Int) (y2 : ByteArray) (w : World) : (binOp .neq 51 (.agg #[.bool x0, .int .i64 x1, .string x2]) (.agg #[.bool y0, .int .i64 y1, .string y2])).run Tryd.prog w = .ok (.bool (!eqV x0 x1 x2 y0 y1 y2)) w := by
  have h := eqA51 9998 w x0 y0 x1 y1 x2 y2
  unfold eqV
  simp only [binOp]
  simp [Op.equal, Op.maxDepth, h]
end Go.Proofs.YtpkdfjlkhfjlcaaDoor.MVal
