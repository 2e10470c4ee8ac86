/-
  NARROWER THAN 'FOR EVERY INPUT', by the rows' own cells (each row's printed sentence says how): QueueRuns: laid · QueueOrder: laid · QueueLinks: laid · GraphRuns: laid · GraphTells: laid · GraphWays: laid · GraphFar: laid · GraphNear: laid · GraphBad: laid.
  DERIVED. THE GIVEN ROWS OF THIS SEAT. 9 by the template 'for every input the law returns true; each argument reads behind the call as it read before'; 0 by the template 'total and deterministic' (their statements: YtfkkefhijhjaaaaDoorTotals.lean).
  GIVEN WITH THE SEED: the statements are not yours to turn. If you find one false, say at which input.
  Laid BY PROGRAM, IN A SANDBOX (cutbox-rows.mjs): the forced cells as the released guide's own fill.sh prints them over the translation acb68b67ec2b4aa4… (all of the seat's roots in one cut). By AI agents, Wed Nov 11 2026. No macro, syntax, notation, axiom, sorry.
-/
import Derived.Test.YtfkkefhijhjaaaaDoorChecked
import GoSem.Claim
import GoSem.ClaimJoined
import GoSem.ClaimMapViews
import Derived.JoinedTies
import Derived.KernelRfl
namespace Go.Proofs.YtfkkefhijhjaaaaDoor
/- THE CELL 'sum', in the pinned program and in every row, IS THE sha256 OF THE DUMP (.gsa) THAT YtfkkefhijhjaaaaDoorProg.lean LOADS. Nothing in Lean hashes anything: it is a label: what it is worth is what the hold of that sum in a sandbox is worth. -/
noncomputable def Tryd.pinned : Pinned := { name := "ytfkkefhijhjaaaadoor", sum := "acb68b67ec2b4aa4a4b4aa298b00d7a0b0fd53b6a19e0a57cf2c5ffe0575655b", checked := Tryd.checked }
namespace Rows
def none {H : Type} : Left H := { results := [], args := [] }

/- WHAT THE LISTED PACKAGE-LEVEL VARIABLES READ AS WHEN THE CALL BEGINS. Each datum BY PROGRAM (the guide's laid-datum.mjs) off the statement by which the dump's own 'gosem.cut.vars' lays the variable. In a bare row this is a premise. The card (YtfkkefhijhjaaaaDoorCards.lean) ties it to the program's text. -/
def laid_errors_errorType {H : Type} : DataW H := .iface "internal/reflectlite.rtype" (.agg [.ptr (.lit (.string [101, 114, 114, 111, 114]))])

/-- 'broadsidelaw15.QueueRuns': WHATEVER THE INPUT: true; the input reads as it did. -/
def queueRunsSpec : ChangeSpec := { name := "queueRuns", fn := fun _ => fun
  | [] => { results := [.lit (.bool true)], args := [] }
  | _ => none }
def queueRunsRow : OpenClaim := { program := "ytfkkefhijhjaaaadoor", sum := "acb68b67ec2b4aa4a4b4aa298b00d7a0b0fd53b6a19e0a57cf2c5ffe0575655b", func := "broadside/broadsidelaw15.QueueRuns", spec := "queueRuns", inPlace := ["internal/reflectlite.ValueOf", "(internal/reflectlite.Value).Type", "(internal/reflectlite.Value).IsNil", "internal/reflectlite.TypeOf", "(internal/reflectlite.Value).Elem", "(internal/reflectlite.Value).Set"], unfollowed := true, recurses := true, named := ["errors.errorType"], plainKeys := false, apart := false, laid := [("errors.errorType", laid_errors_errorType)] }
def QueueRunsSaid : Prop := queueRunsRow.holds Tryd.pinned (OpenSpec.ofChange queueRunsSpec)

/-- ITS FALSE NEIGHBOUR: 'it returns false'. Refute it at one input. -/
def queueRunsWrong : ChangeSpec := { name := "queueRuns", fn := fun _ => fun
  | [] => { results := [.lit (.bool false)], args := [] }
  | _ => none }
def QueueRunsWrongFalsely : Prop := queueRunsRow.holds Tryd.pinned (OpenSpec.ofChange queueRunsWrong)

/-- 'broadsidelaw15.QueueOrder': WHATEVER THE INPUT: true; the input reads as it did. -/
def queueOrderSpec : ChangeSpec := { name := "queueOrder", fn := fun _ => fun
  | [d1, d2, d3] => { results := [.lit (.bool true)], args := [d1, d2, d3] }
  | _ => none }
def queueOrderRow : OpenClaim := { program := "ytfkkefhijhjaaaadoor", sum := "acb68b67ec2b4aa4a4b4aa298b00d7a0b0fd53b6a19e0a57cf2c5ffe0575655b", func := "broadside/broadsidelaw15.QueueOrder", spec := "queueOrder", inPlace := ["internal/reflectlite.ValueOf", "(internal/reflectlite.Value).Type", "(internal/reflectlite.Value).IsNil", "internal/reflectlite.TypeOf", "(internal/reflectlite.Value).Elem", "(internal/reflectlite.Value).Set"], unfollowed := true, recurses := true, named := ["errors.errorType"], plainKeys := false, apart := false, laid := [("errors.errorType", laid_errors_errorType)] }
def QueueOrderSaid : Prop := queueOrderRow.holds Tryd.pinned (OpenSpec.ofChange queueOrderSpec)

/-- ITS FALSE NEIGHBOUR: 'it returns false'. Refute it at one input. -/
def queueOrderWrong : ChangeSpec := { name := "queueOrder", fn := fun _ => fun
  | [d1, d2, d3] => { results := [.lit (.bool false)], args := [d1, d2, d3] }
  | _ => none }
def QueueOrderWrongFalsely : Prop := queueOrderRow.holds Tryd.pinned (OpenSpec.ofChange queueOrderWrong)

/-- 'broadsidelaw15.QueueLinks': WHATEVER THE INPUT: true; the input reads as it did. -/
def queueLinksSpec : ChangeSpec := { name := "queueLinks", fn := fun _ => fun
  | [d1, d2] => { results := [.lit (.bool true)], args := [d1, d2] }
  | _ => none }
def queueLinksRow : OpenClaim := { program := "ytfkkefhijhjaaaadoor", sum := "acb68b67ec2b4aa4a4b4aa298b00d7a0b0fd53b6a19e0a57cf2c5ffe0575655b", func := "broadside/broadsidelaw15.QueueLinks", spec := "queueLinks", inPlace := ["internal/reflectlite.ValueOf", "(internal/reflectlite.Value).Type", "(internal/reflectlite.Value).IsNil", "internal/reflectlite.TypeOf", "(internal/reflectlite.Value).Elem", "(internal/reflectlite.Value).Set"], unfollowed := true, recurses := true, named := ["errors.errorType"], plainKeys := false, apart := false, laid := [("errors.errorType", laid_errors_errorType)] }
def QueueLinksSaid : Prop := queueLinksRow.holds Tryd.pinned (OpenSpec.ofChange queueLinksSpec)

/-- ITS FALSE NEIGHBOUR: 'it returns false'. Refute it at one input. -/
def queueLinksWrong : ChangeSpec := { name := "queueLinks", fn := fun _ => fun
  | [d1, d2] => { results := [.lit (.bool false)], args := [d1, d2] }
  | _ => none }
def QueueLinksWrongFalsely : Prop := queueLinksRow.holds Tryd.pinned (OpenSpec.ofChange queueLinksWrong)

/-- 'broadsidelaw6.GraphRuns': WHATEVER THE INPUT: true; the input reads as it did. -/
def graphRunsSpec : ChangeSpec := { name := "graphRuns", fn := fun _ => fun
  | [] => { results := [.lit (.bool true)], args := [] }
  | _ => none }
def graphRunsRow : OpenClaim := { program := "ytfkkefhijhjaaaadoor", sum := "acb68b67ec2b4aa4a4b4aa298b00d7a0b0fd53b6a19e0a57cf2c5ffe0575655b", func := "broadside/broadsidelaw6.GraphRuns", spec := "graphRuns", inPlace := ["internal/reflectlite.ValueOf", "(internal/reflectlite.Value).Type", "(internal/reflectlite.Value).IsNil", "internal/reflectlite.TypeOf", "(internal/reflectlite.Value).Elem", "(internal/reflectlite.Value).Set"], unfollowed := true, recurses := true, named := ["errors.errorType"], plainKeys := false, apart := false, laid := [("errors.errorType", laid_errors_errorType)] }
def GraphRunsSaid : Prop := graphRunsRow.holds Tryd.pinned (OpenSpec.ofChange graphRunsSpec)

/-- ITS FALSE NEIGHBOUR: 'it returns false'. Refute it at one input. -/
def graphRunsWrong : ChangeSpec := { name := "graphRuns", fn := fun _ => fun
  | [] => { results := [.lit (.bool false)], args := [] }
  | _ => none }
def GraphRunsWrongFalsely : Prop := graphRunsRow.holds Tryd.pinned (OpenSpec.ofChange graphRunsWrong)

/-- 'broadsidelaw6.GraphTells': WHATEVER THE INPUT: true; the input reads as it did. -/
def graphTellsSpec : ChangeSpec := { name := "graphTells", fn := fun _ => fun
  | [d1, d2, d3, d4, d5] => { results := [.lit (.bool true)], args := [d1, d2, d3, d4, d5] }
  | _ => none }
def graphTellsRow : OpenClaim := { program := "ytfkkefhijhjaaaadoor", sum := "acb68b67ec2b4aa4a4b4aa298b00d7a0b0fd53b6a19e0a57cf2c5ffe0575655b", func := "broadside/broadsidelaw6.GraphTells", spec := "graphTells", inPlace := ["internal/reflectlite.ValueOf", "(internal/reflectlite.Value).Type", "(internal/reflectlite.Value).IsNil", "internal/reflectlite.TypeOf", "(internal/reflectlite.Value).Elem", "(internal/reflectlite.Value).Set"], unfollowed := true, recurses := true, named := ["errors.errorType"], plainKeys := false, apart := false, laid := [("errors.errorType", laid_errors_errorType)] }
def GraphTellsSaid : Prop := graphTellsRow.holds Tryd.pinned (OpenSpec.ofChange graphTellsSpec)

/-- ITS FALSE NEIGHBOUR: 'it returns false'. Refute it at one input. -/
def graphTellsWrong : ChangeSpec := { name := "graphTells", fn := fun _ => fun
  | [d1, d2, d3, d4, d5] => { results := [.lit (.bool false)], args := [d1, d2, d3, d4, d5] }
  | _ => none }
def GraphTellsWrongFalsely : Prop := graphTellsRow.holds Tryd.pinned (OpenSpec.ofChange graphTellsWrong)

/-- 'broadsidelaw6.GraphWays': WHATEVER THE INPUT: true; the input reads as it did. -/
def graphWaysSpec : ChangeSpec := { name := "graphWays", fn := fun _ => fun
  | [d1, d2] => { results := [.lit (.bool true)], args := [d1, d2] }
  | _ => none }
def graphWaysRow : OpenClaim := { program := "ytfkkefhijhjaaaadoor", sum := "acb68b67ec2b4aa4a4b4aa298b00d7a0b0fd53b6a19e0a57cf2c5ffe0575655b", func := "broadside/broadsidelaw6.GraphWays", spec := "graphWays", inPlace := ["internal/reflectlite.ValueOf", "(internal/reflectlite.Value).Type", "(internal/reflectlite.Value).IsNil", "internal/reflectlite.TypeOf", "(internal/reflectlite.Value).Elem", "(internal/reflectlite.Value).Set"], unfollowed := true, recurses := true, named := ["errors.errorType"], plainKeys := false, apart := false, laid := [("errors.errorType", laid_errors_errorType)] }
def GraphWaysSaid : Prop := graphWaysRow.holds Tryd.pinned (OpenSpec.ofChange graphWaysSpec)

/-- ITS FALSE NEIGHBOUR: 'it returns false'. Refute it at one input. -/
def graphWaysWrong : ChangeSpec := { name := "graphWays", fn := fun _ => fun
  | [d1, d2] => { results := [.lit (.bool false)], args := [d1, d2] }
  | _ => none }
def GraphWaysWrongFalsely : Prop := graphWaysRow.holds Tryd.pinned (OpenSpec.ofChange graphWaysWrong)

/-- 'broadsidelaw6.GraphFar': WHATEVER THE INPUT: true; the input reads as it did. -/
def graphFarSpec : ChangeSpec := { name := "graphFar", fn := fun _ => fun
  | [d1, d2, d3, d4] => { results := [.lit (.bool true)], args := [d1, d2, d3, d4] }
  | _ => none }
def graphFarRow : OpenClaim := { program := "ytfkkefhijhjaaaadoor", sum := "acb68b67ec2b4aa4a4b4aa298b00d7a0b0fd53b6a19e0a57cf2c5ffe0575655b", func := "broadside/broadsidelaw6.GraphFar", spec := "graphFar", inPlace := ["internal/reflectlite.ValueOf", "(internal/reflectlite.Value).Type", "(internal/reflectlite.Value).IsNil", "internal/reflectlite.TypeOf", "(internal/reflectlite.Value).Elem", "(internal/reflectlite.Value).Set"], unfollowed := true, recurses := true, named := ["errors.errorType"], plainKeys := false, apart := false, laid := [("errors.errorType", laid_errors_errorType)] }
def GraphFarSaid : Prop := graphFarRow.holds Tryd.pinned (OpenSpec.ofChange graphFarSpec)

/-- ITS FALSE NEIGHBOUR: 'it returns false'. Refute it at one input. -/
def graphFarWrong : ChangeSpec := { name := "graphFar", fn := fun _ => fun
  | [d1, d2, d3, d4] => { results := [.lit (.bool false)], args := [d1, d2, d3, d4] }
  | _ => none }
def GraphFarWrongFalsely : Prop := graphFarRow.holds Tryd.pinned (OpenSpec.ofChange graphFarWrong)

/-- 'broadsidelaw6.GraphNear': WHATEVER THE INPUT: true; the input reads as it did. -/
def graphNearSpec : ChangeSpec := { name := "graphNear", fn := fun _ => fun
  | [d1, d2] => { results := [.lit (.bool true)], args := [d1, d2] }
  | _ => none }
def graphNearRow : OpenClaim := { program := "ytfkkefhijhjaaaadoor", sum := "acb68b67ec2b4aa4a4b4aa298b00d7a0b0fd53b6a19e0a57cf2c5ffe0575655b", func := "broadside/broadsidelaw6.GraphNear", spec := "graphNear", inPlace := ["internal/reflectlite.ValueOf", "(internal/reflectlite.Value).Type", "(internal/reflectlite.Value).IsNil", "internal/reflectlite.TypeOf", "(internal/reflectlite.Value).Elem", "(internal/reflectlite.Value).Set"], unfollowed := true, recurses := true, named := ["errors.errorType"], plainKeys := false, apart := false, laid := [("errors.errorType", laid_errors_errorType)] }
def GraphNearSaid : Prop := graphNearRow.holds Tryd.pinned (OpenSpec.ofChange graphNearSpec)

/-- ITS FALSE NEIGHBOUR: 'it returns false'. Refute it at one input. -/
def graphNearWrong : ChangeSpec := { name := "graphNear", fn := fun _ => fun
  | [d1, d2] => { results := [.lit (.bool false)], args := [d1, d2] }
  | _ => none }
def GraphNearWrongFalsely : Prop := graphNearRow.holds Tryd.pinned (OpenSpec.ofChange graphNearWrong)

/-- 'broadsidelaw6.GraphBad': WHATEVER THE INPUT: true; the input reads as it did. -/
def graphBadSpec : ChangeSpec := { name := "graphBad", fn := fun _ => fun
  | [d1, d2, d3, d4] => { results := [.lit (.bool true)], args := [d1, d2, d3, d4] }
  | _ => none }
def graphBadRow : OpenClaim := { program := "ytfkkefhijhjaaaadoor", sum := "acb68b67ec2b4aa4a4b4aa298b00d7a0b0fd53b6a19e0a57cf2c5ffe0575655b", func := "broadside/broadsidelaw6.GraphBad", spec := "graphBad", inPlace := ["internal/reflectlite.ValueOf", "(internal/reflectlite.Value).Type", "(internal/reflectlite.Value).IsNil", "internal/reflectlite.TypeOf", "(internal/reflectlite.Value).Elem", "(internal/reflectlite.Value).Set"], unfollowed := true, recurses := true, named := ["errors.errorType"], plainKeys := false, apart := false, laid := [("errors.errorType", laid_errors_errorType)] }
def GraphBadSaid : Prop := graphBadRow.holds Tryd.pinned (OpenSpec.ofChange graphBadSpec)

/-- ITS FALSE NEIGHBOUR: 'it returns false'. Refute it at one input. -/
def graphBadWrong : ChangeSpec := { name := "graphBad", fn := fun _ => fun
  | [d1, d2, d3, d4] => { results := [.lit (.bool false)], args := [d1, d2, d3, d4] }
  | _ => none }
def GraphBadWrongFalsely : Prop := graphBadRow.holds Tryd.pinned (OpenSpec.ofChange graphBadWrong)

/- THE SECOND FORM. 'bulk': how many values and letters a reading holds, each counted each time it is reached (what is shared counts as often as it is met; a slice's spare places count too). A statement '..UptoSaid' is the law's where the arguments, and the package variables that the reading takes, are together of bulk at most 1048576: NARROWER than '..Said'. Prove '..Said' where nothing that the law and all that it calls make is longer than what came in: it says more and counts as full. Else prove '..UptoSaid'. A law counts once. -/
mutual
def uptoBulk {H : Type} : DataW H → Nat
  | .lit (.string bytes) => bytes.length + 1
  | .lit _ => 1
  | .nil => 1
  | .ptr d => uptoBulk d + 1
  | .slice elems spare => uptoBulkAll elems + uptoBulkAll spare + 1
  | .agg parts => uptoBulkAll parts + 1
  | .iface _ d => uptoBulk d + 1
  | .map entries => uptoBulkEntries entries + 1
  | .held _ => 1
def uptoBulkAll {H : Type} : List (DataW H) → Nat
  | [] => 0
  | d :: r => uptoBulk d + uptoBulkAll r
def uptoBulkEntries {H : Type} : List (Lit × DataW H) → Nat
  | [] => 0
  | x :: r => uptoBulkEntry x + uptoBulkEntries r
def uptoBulkEntry {H : Type} : Lit × DataW H → Nat
  | (.string bytes, d) => bytes.length + uptoBulk d + 1
  | (_, d) => uptoBulk d + 1
 end
def uptoSmall : (H : Type) → List (DataW H) → Bool := fun _ ds => decide (uptoBulkAll ds ≤ 1048576)
def OpenSpec.upto (s : _root_.Go.ChangeSpec) : _root_.Go.OpenSpec := { _root_.Go.OpenSpec.ofChange s with cond := some uptoSmall }

/-- 'broadsidelaw15.QueueRuns', WHERE WHAT IT READS IS OF BULK AT MOST 1048576: true; the input reads as it did. -/
def queueRunsUptoRow : OpenClaim := { program := "ytfkkefhijhjaaaadoor", sum := "acb68b67ec2b4aa4a4b4aa298b00d7a0b0fd53b6a19e0a57cf2c5ffe0575655b", func := "broadside/broadsidelaw15.QueueRuns", spec := "queueRuns", inPlace := ["internal/reflectlite.ValueOf", "(internal/reflectlite.Value).Type", "(internal/reflectlite.Value).IsNil", "internal/reflectlite.TypeOf", "(internal/reflectlite.Value).Elem", "(internal/reflectlite.Value).Set"], unfollowed := true, recurses := true, named := ["errors.errorType"], plainKeys := false, apart := false, laid := [("errors.errorType", laid_errors_errorType)], narrowed := true }
def QueueRunsUptoSaid : Prop := queueRunsUptoRow.holds Tryd.pinned (OpenSpec.upto queueRunsSpec)

/-- 'broadsidelaw15.QueueOrder', WHERE WHAT IT READS IS OF BULK AT MOST 1048576: true; the input reads as it did. -/
def queueOrderUptoRow : OpenClaim := { program := "ytfkkefhijhjaaaadoor", sum := "acb68b67ec2b4aa4a4b4aa298b00d7a0b0fd53b6a19e0a57cf2c5ffe0575655b", func := "broadside/broadsidelaw15.QueueOrder", spec := "queueOrder", inPlace := ["internal/reflectlite.ValueOf", "(internal/reflectlite.Value).Type", "(internal/reflectlite.Value).IsNil", "internal/reflectlite.TypeOf", "(internal/reflectlite.Value).Elem", "(internal/reflectlite.Value).Set"], unfollowed := true, recurses := true, named := ["errors.errorType"], plainKeys := false, apart := false, laid := [("errors.errorType", laid_errors_errorType)], narrowed := true }
def QueueOrderUptoSaid : Prop := queueOrderUptoRow.holds Tryd.pinned (OpenSpec.upto queueOrderSpec)

/-- 'broadsidelaw15.QueueLinks', WHERE WHAT IT READS IS OF BULK AT MOST 1048576: true; the input reads as it did. -/
def queueLinksUptoRow : OpenClaim := { program := "ytfkkefhijhjaaaadoor", sum := "acb68b67ec2b4aa4a4b4aa298b00d7a0b0fd53b6a19e0a57cf2c5ffe0575655b", func := "broadside/broadsidelaw15.QueueLinks", spec := "queueLinks", inPlace := ["internal/reflectlite.ValueOf", "(internal/reflectlite.Value).Type", "(internal/reflectlite.Value).IsNil", "internal/reflectlite.TypeOf", "(internal/reflectlite.Value).Elem", "(internal/reflectlite.Value).Set"], unfollowed := true, recurses := true, named := ["errors.errorType"], plainKeys := false, apart := false, laid := [("errors.errorType", laid_errors_errorType)], narrowed := true }
def QueueLinksUptoSaid : Prop := queueLinksUptoRow.holds Tryd.pinned (OpenSpec.upto queueLinksSpec)

/-- 'broadsidelaw6.GraphRuns', WHERE WHAT IT READS IS OF BULK AT MOST 1048576: true; the input reads as it did. -/
def graphRunsUptoRow : OpenClaim := { program := "ytfkkefhijhjaaaadoor", sum := "acb68b67ec2b4aa4a4b4aa298b00d7a0b0fd53b6a19e0a57cf2c5ffe0575655b", func := "broadside/broadsidelaw6.GraphRuns", spec := "graphRuns", inPlace := ["internal/reflectlite.ValueOf", "(internal/reflectlite.Value).Type", "(internal/reflectlite.Value).IsNil", "internal/reflectlite.TypeOf", "(internal/reflectlite.Value).Elem", "(internal/reflectlite.Value).Set"], unfollowed := true, recurses := true, named := ["errors.errorType"], plainKeys := false, apart := false, laid := [("errors.errorType", laid_errors_errorType)], narrowed := true }
def GraphRunsUptoSaid : Prop := graphRunsUptoRow.holds Tryd.pinned (OpenSpec.upto graphRunsSpec)

/-- 'broadsidelaw6.GraphTells', WHERE WHAT IT READS IS OF BULK AT MOST 1048576: true; the input reads as it did. -/
def graphTellsUptoRow : OpenClaim := { program := "ytfkkefhijhjaaaadoor", sum := "acb68b67ec2b4aa4a4b4aa298b00d7a0b0fd53b6a19e0a57cf2c5ffe0575655b", func := "broadside/broadsidelaw6.GraphTells", spec := "graphTells", inPlace := ["internal/reflectlite.ValueOf", "(internal/reflectlite.Value).Type", "(internal/reflectlite.Value).IsNil", "internal/reflectlite.TypeOf", "(internal/reflectlite.Value).Elem", "(internal/reflectlite.Value).Set"], unfollowed := true, recurses := true, named := ["errors.errorType"], plainKeys := false, apart := false, laid := [("errors.errorType", laid_errors_errorType)], narrowed := true }
def GraphTellsUptoSaid : Prop := graphTellsUptoRow.holds Tryd.pinned (OpenSpec.upto graphTellsSpec)

/-- 'broadsidelaw6.GraphWays', WHERE WHAT IT READS IS OF BULK AT MOST 1048576: true; the input reads as it did. -/
def graphWaysUptoRow : OpenClaim := { program := "ytfkkefhijhjaaaadoor", sum := "acb68b67ec2b4aa4a4b4aa298b00d7a0b0fd53b6a19e0a57cf2c5ffe0575655b", func := "broadside/broadsidelaw6.GraphWays", spec := "graphWays", inPlace := ["internal/reflectlite.ValueOf", "(internal/reflectlite.Value).Type", "(internal/reflectlite.Value).IsNil", "internal/reflectlite.TypeOf", "(internal/reflectlite.Value).Elem", "(internal/reflectlite.Value).Set"], unfollowed := true, recurses := true, named := ["errors.errorType"], plainKeys := false, apart := false, laid := [("errors.errorType", laid_errors_errorType)], narrowed := true }
def GraphWaysUptoSaid : Prop := graphWaysUptoRow.holds Tryd.pinned (OpenSpec.upto graphWaysSpec)

/-- 'broadsidelaw6.GraphFar', WHERE WHAT IT READS IS OF BULK AT MOST 1048576: true; the input reads as it did. -/
def graphFarUptoRow : OpenClaim := { program := "ytfkkefhijhjaaaadoor", sum := "acb68b67ec2b4aa4a4b4aa298b00d7a0b0fd53b6a19e0a57cf2c5ffe0575655b", func := "broadside/broadsidelaw6.GraphFar", spec := "graphFar", inPlace := ["internal/reflectlite.ValueOf", "(internal/reflectlite.Value).Type", "(internal/reflectlite.Value).IsNil", "internal/reflectlite.TypeOf", "(internal/reflectlite.Value).Elem", "(internal/reflectlite.Value).Set"], unfollowed := true, recurses := true, named := ["errors.errorType"], plainKeys := false, apart := false, laid := [("errors.errorType", laid_errors_errorType)], narrowed := true }
def GraphFarUptoSaid : Prop := graphFarUptoRow.holds Tryd.pinned (OpenSpec.upto graphFarSpec)

/-- 'broadsidelaw6.GraphNear', WHERE WHAT IT READS IS OF BULK AT MOST 1048576: true; the input reads as it did. -/
def graphNearUptoRow : OpenClaim := { program := "ytfkkefhijhjaaaadoor", sum := "acb68b67ec2b4aa4a4b4aa298b00d7a0b0fd53b6a19e0a57cf2c5ffe0575655b", func := "broadside/broadsidelaw6.GraphNear", spec := "graphNear", inPlace := ["internal/reflectlite.ValueOf", "(internal/reflectlite.Value).Type", "(internal/reflectlite.Value).IsNil", "internal/reflectlite.TypeOf", "(internal/reflectlite.Value).Elem", "(internal/reflectlite.Value).Set"], unfollowed := true, recurses := true, named := ["errors.errorType"], plainKeys := false, apart := false, laid := [("errors.errorType", laid_errors_errorType)], narrowed := true }
def GraphNearUptoSaid : Prop := graphNearUptoRow.holds Tryd.pinned (OpenSpec.upto graphNearSpec)

/-- 'broadsidelaw6.GraphBad', WHERE WHAT IT READS IS OF BULK AT MOST 1048576: true; the input reads as it did. -/
def graphBadUptoRow : OpenClaim := { program := "ytfkkefhijhjaaaadoor", sum := "acb68b67ec2b4aa4a4b4aa298b00d7a0b0fd53b6a19e0a57cf2c5ffe0575655b", func := "broadside/broadsidelaw6.GraphBad", spec := "graphBad", inPlace := ["internal/reflectlite.ValueOf", "(internal/reflectlite.Value).Type", "(internal/reflectlite.Value).IsNil", "internal/reflectlite.TypeOf", "(internal/reflectlite.Value).Elem", "(internal/reflectlite.Value).Set"], unfollowed := true, recurses := true, named := ["errors.errorType"], plainKeys := false, apart := false, laid := [("errors.errorType", laid_errors_errorType)], narrowed := true }
def GraphBadUptoSaid : Prop := graphBadUptoRow.holds Tryd.pinned (OpenSpec.upto graphBadSpec)

end Rows
end Go.Proofs.YtfkkefhijhjaaaaDoor
