import Derived.Test.YtpkdfjlkhfjlcaaDoorVaR
namespace Go.Proofs.YtpkdfjlkhfjlcaaDoor.MVal
open Go.RowKit Go.Proofs.YtpkdfjlkhfjlcaaDoorW.PrintWords
theorem runs_true : broadsidelaw2_ValueRuns.f = some true := by kernel_rfl
theorem runs_calls (w : World) (HTAB : Aside0 (Val.Tab w)) : Calls Tryd.prog 7 #[] w fun e w' => e = .returned (.bool true) ∧ Below w.heap.size w w' := broadsidelaw2_ValueRuns.calls true w HTAB runs_true
end Go.Proofs.YtpkdfjlkhfjlcaaDoor.MVal
