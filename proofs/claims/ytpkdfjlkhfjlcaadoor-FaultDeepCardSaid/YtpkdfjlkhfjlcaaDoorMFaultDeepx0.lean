-- Written by a program of this session (wip/tools), out of the translation. Not trusted: Lean checks it.
import Derived.Test.YtpkdfjlkhfjlcaaDoorProg
import Derived.Below
import Derived.Deep.Draws
import Derived.Deep.AppendLies
import Derived.Maps.AppendAt
import Derived.OwnWalk
import Derived.Laws.BytesArg
import Derived.Laws.MakeOwn
import Derived.Laws.OwnMore
import Derived.Deep.OwnRows
import Derived.Tactics
import Derived.Lib.ConvBytes
import Derived.Laws.Slices
import Derived.WalkKit
import Derived.KernelRfl
import Derived.RowKit3
import Derived.Deep.LoopGhost
import Derived.Deep.QuietTactic
import Derived.BigQuiet
import Derived.WideLaws
import Derived.Deep.DeepCutAuto
import Derived.Deep.CutBlock
import Derived.Deep.RegionHeld3
import Derived.Laws.Rows
import Derived.Lib.AppendStr
import Derived.ArgAppend
import Derived.Laws.IdiomCopy
import Derived.OrdersHeld
import Derived.Laws.BitsLemmas
import Derived.RowKit
import Derived.Test.YtpkdfjlkhfjlcaaDoorWWords
import Derived.Test.YtpkdfjlkhfjlcaaDoorWLast
import Derived.Test.YtpkdfjlkhfjlcaaDoorWTab
import Derived.Test.YtpkdfjlkhfjlcaaDoorWFour
import Derived.Test.YtpkdfjlkhfjlcaaDoorWQPut
import Derived.Test.YtpkdfjlkhfjlcaaDoorWApart
import Derived.Test.YtpkdfjlkhfjlcaaDoorWArr
import Derived.Test.YtpkdfjlkhfjlcaaDoorWZeros
import Derived.Test.YtpkdfjlkhfjlcaaDoorWFoot
import Derived.Test.YtpkdfjlkhfjlcaaDoorWKept
import Derived.Test.YtpkdfjlkhfjlcaaDoorWShare
import Derived.Test.YtpkdfjlkhfjlcaaDoorWN
import Derived.Test.YtpkdfjlkhfjlcaaDoorWFootNe
import Derived.Test.YtpkdfjlkhfjlcaaDoorWAt
import Derived.Test.YtpkdfjlkhfjlcaaDoorWEqStruct
import Derived.Test.YtpkdfjlkhfjlcaaDoorWRepsOne
import Derived.Test.YtpkdfjlkhfjlcaaDoorWInv
import Derived.Test.YtpkdfjlkhfjlcaaDoorWInvWords
import Derived.Test.YtpkdfjlkhfjlcaaDoorWGuard
import Derived.Test.YtpkdfjlkhfjlcaaDoorWNEv
import Derived.Test.YtpkdfjlkhfjlcaaDoorWMore
namespace Go.Proofs.YtpkdfjlkhfjlcaaDoor.MFaultDeep
open Go.RowKit Go.Proofs.YtpkdfjlkhfjlcaaDoorW.PrintWords Go.Proofs.YtpkdfjlkhfjlcaaDoorW.PrintLast Go.Proofs.YtpkdfjlkhfjlcaaDoorW.PrintMore
attribute [local go_sem] max2_int min2_int max_two min_two max_three min_three max_four min_four   -- for this text's walks alone
set_option linter.unusedVariables false
set_option linter.unusedSimpArgs false



def errW : Option Int → Value
  | none => .nilIface
  | some c => .iface 25 (.int .i64 c)
theorem errW_none : errW none = .nilIface := rfl
theorem errW_some (c : Int) : errW (some c) = .iface 25 (.int .i64 c) := rfl

-- the values' own types

end Go.Proofs.YtpkdfjlkhfjlcaaDoor.MFaultDeep
