import Derived.Test.YtgdieejhglhkcaaGreatDoorMTupx8
namespace Go.Proofs.YtgdieejhglhkcaaGreatDoor.MTup
open Go.RowKit Go.Proofs.YtgdieejhglhkcaaGreatDoorW.PrintWords
theorem runs_true : broadsidelaw3_TupleRuns.f 30 = some true := by kernel_rfl
theorem runs_calls (w : World) (HTAB : Aside0 (Val.Tab w)) : Calls Tryz.prog 3 #[] w fun e w' => e = .returned (.bool true) ∧ Below w.heap.size w w' := broadsidelaw3_TupleRuns.calls 30 true w HTAB runs_true
end Go.Proofs.YtgdieejhglhkcaaGreatDoor.MTup
