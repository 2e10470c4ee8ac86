/-
  No cell of these rows narrows 'for every input' (looked for: loops, veiled, ifaces, maps, wideKeys, modest, calm, conditions, laid).
  DERIVED. THE GIVEN ROWS OF THIS SEAT. 7 by the template 'for every input the law returns true; each argument reads behind the call as it read before'; 0 by the template 'total and deterministic' (their statements: YtfabnapjbgamaaaTotals.lean).
  GIVEN WITH THE SEED: the statements are not yours to turn. If you find one false, say at which input.
  Laid BY PROGRAM, IN A SANDBOX (cutbox-rows.mjs): the forced cells as the released guide's own fill.sh prints them over the translation 6519f679fdce2f77… (all of the seat's roots in one cut). By AI agents, Wed Nov 11 2026. No macro, syntax, notation, axiom, sorry.
-/
import Derived.Test.YtfabnapjbgamaaaChecked
import GoSem.Claim
import GoSem.ClaimJoined
import GoSem.ClaimMapViews
import Derived.JoinedTies
import Derived.KernelRfl
namespace Go.Proofs.Ytfabnapjbgamaaa
/- THE CELL 'sum', in the pinned program and in every row, IS THE sha256 OF THE DUMP (.gsa) THAT YtfabnapjbgamaaaProg.lean LOADS. Nothing in Lean hashes anything: it is a label: what it is worth is what the hold of that sum in a sandbox is worth. -/
noncomputable def Try.pinned : Pinned := { name := "ytfabnapjbgamaaa", sum := "6519f679fdce2f778d877356574cb449556c43b72e77ffa571addb01cb5fed61", checked := Try.checked }
namespace Rows
def none {H : Type} : Left H := { results := [], args := [] }

/-- 'broadsidelaw5.RelRuns': WHATEVER THE INPUT: true; the input reads as it did. -/
def relRunsSpec : ChangeSpec := { name := "relRuns", fn := fun _ => fun
  | [] => { results := [.lit (.bool true)], args := [] }
  | _ => none }
def relRunsRow : OpenClaim := { program := "ytfabnapjbgamaaa", sum := "6519f679fdce2f778d877356574cb449556c43b72e77ffa571addb01cb5fed61", func := "broadside/broadsidelaw5.RelRuns", spec := "relRuns", inPlace := ["internal/bytealg.abigen_runtime_cmpstring", "slices.overlaps[broadside/api.Constraint]"], unfollowed := true, recurses := true, apart := false }
def RelRunsSaid : Prop := relRunsRow.holds Try.pinned (OpenSpec.ofChange relRunsSpec)

/-- ITS FALSE NEIGHBOUR: 'it returns false'. Refute it at one input. -/
def relRunsWrong : ChangeSpec := { name := "relRuns", fn := fun _ => fun
  | [] => { results := [.lit (.bool false)], args := [] }
  | _ => none }
def RelRunsWrongFalsely : Prop := relRunsRow.holds Try.pinned (OpenSpec.ofChange relRunsWrong)

/-- 'broadsidelaw5.RelTells': WHATEVER THE INPUT: true; the input reads as it did. -/
def relTellsSpec : ChangeSpec := { name := "relTells", fn := fun _ => fun
  | [d1, d2, d3] => { results := [.lit (.bool true)], args := [d1, d2, d3] }
  | _ => none }
def relTellsRow : OpenClaim := { program := "ytfabnapjbgamaaa", sum := "6519f679fdce2f778d877356574cb449556c43b72e77ffa571addb01cb5fed61", func := "broadside/broadsidelaw5.RelTells", spec := "relTells", inPlace := ["internal/bytealg.abigen_runtime_cmpstring", "slices.overlaps[broadside/api.Constraint]"], unfollowed := true, recurses := true, apart := false }
def RelTellsSaid : Prop := relTellsRow.holds Try.pinned (OpenSpec.ofChange relTellsSpec)

/-- ITS FALSE NEIGHBOUR: 'it returns false'. Refute it at one input. -/
def relTellsWrong : ChangeSpec := { name := "relTells", fn := fun _ => fun
  | [d1, d2, d3] => { results := [.lit (.bool false)], args := [d1, d2, d3] }
  | _ => none }
def RelTellsWrongFalsely : Prop := relTellsRow.holds Try.pinned (OpenSpec.ofChange relTellsWrong)

/-- 'broadsidelaw5.RelLaws': WHATEVER THE INPUT: true; the input reads as it did. -/
def relLawsSpec : ChangeSpec := { name := "relLaws", fn := fun _ => fun
  | [d1, d2, d3] => { results := [.lit (.bool true)], args := [d1, d2, d3] }
  | _ => none }
def relLawsRow : OpenClaim := { program := "ytfabnapjbgamaaa", sum := "6519f679fdce2f778d877356574cb449556c43b72e77ffa571addb01cb5fed61", func := "broadside/broadsidelaw5.RelLaws", spec := "relLaws", inPlace := ["internal/bytealg.abigen_runtime_cmpstring", "slices.overlaps[broadside/api.Constraint]"], unfollowed := true, recurses := true, apart := false }
def RelLawsSaid : Prop := relLawsRow.holds Try.pinned (OpenSpec.ofChange relLawsSpec)

/-- ITS FALSE NEIGHBOUR: 'it returns false'. Refute it at one input. -/
def relLawsWrong : ChangeSpec := { name := "relLaws", fn := fun _ => fun
  | [d1, d2, d3] => { results := [.lit (.bool false)], args := [d1, d2, d3] }
  | _ => none }
def RelLawsWrongFalsely : Prop := relLawsRow.holds Try.pinned (OpenSpec.ofChange relLawsWrong)

/-- 'broadsidelaw5.RelOne': WHATEVER THE INPUT: true; the input reads as it did. -/
def relOneSpec : ChangeSpec := { name := "relOne", fn := fun _ => fun
  | [d1, d2, d3] => { results := [.lit (.bool true)], args := [d1, d2, d3] }
  | _ => none }
def relOneRow : OpenClaim := { program := "ytfabnapjbgamaaa", sum := "6519f679fdce2f778d877356574cb449556c43b72e77ffa571addb01cb5fed61", func := "broadside/broadsidelaw5.RelOne", spec := "relOne", inPlace := ["internal/bytealg.abigen_runtime_cmpstring", "slices.overlaps[broadside/api.Constraint]"], unfollowed := true, recurses := true, apart := false }
def RelOneSaid : Prop := relOneRow.holds Try.pinned (OpenSpec.ofChange relOneSpec)

/-- ITS FALSE NEIGHBOUR: 'it returns false'. Refute it at one input. -/
def relOneWrong : ChangeSpec := { name := "relOne", fn := fun _ => fun
  | [d1, d2, d3] => { results := [.lit (.bool false)], args := [d1, d2, d3] }
  | _ => none }
def RelOneWrongFalsely : Prop := relOneRow.holds Try.pinned (OpenSpec.ofChange relOneWrong)

/-- 'broadsidelaw5.RelMore': WHATEVER THE INPUT: true; the input reads as it did. -/
def relMoreSpec : ChangeSpec := { name := "relMore", fn := fun _ => fun
  | [d1, d2, d3, d4] => { results := [.lit (.bool true)], args := [d1, d2, d3, d4] }
  | _ => none }
def relMoreRow : OpenClaim := { program := "ytfabnapjbgamaaa", sum := "6519f679fdce2f778d877356574cb449556c43b72e77ffa571addb01cb5fed61", func := "broadside/broadsidelaw5.RelMore", spec := "relMore", inPlace := ["internal/bytealg.abigen_runtime_cmpstring", "slices.overlaps[broadside/api.Constraint]"], unfollowed := true, recurses := true, apart := false }
def RelMoreSaid : Prop := relMoreRow.holds Try.pinned (OpenSpec.ofChange relMoreSpec)

/-- ITS FALSE NEIGHBOUR: 'it returns false'. Refute it at one input. -/
def relMoreWrong : ChangeSpec := { name := "relMore", fn := fun _ => fun
  | [d1, d2, d3, d4] => { results := [.lit (.bool false)], args := [d1, d2, d3, d4] }
  | _ => none }
def RelMoreWrongFalsely : Prop := relMoreRow.holds Try.pinned (OpenSpec.ofChange relMoreWrong)

/-- 'broadsidelaw5.RelTrue': WHATEVER THE INPUT: true; the input reads as it did. -/
def relTrueSpec : ChangeSpec := { name := "relTrue", fn := fun _ => fun
  | [d1, d2, d3] => { results := [.lit (.bool true)], args := [d1, d2, d3] }
  | _ => none }
def relTrueRow : OpenClaim := { program := "ytfabnapjbgamaaa", sum := "6519f679fdce2f778d877356574cb449556c43b72e77ffa571addb01cb5fed61", func := "broadside/broadsidelaw5.RelTrue", spec := "relTrue", inPlace := ["internal/bytealg.abigen_runtime_cmpstring", "slices.overlaps[broadside/api.Constraint]"], unfollowed := true, recurses := true, apart := false }
def RelTrueSaid : Prop := relTrueRow.holds Try.pinned (OpenSpec.ofChange relTrueSpec)

/-- ITS FALSE NEIGHBOUR: 'it returns false'. Refute it at one input. -/
def relTrueWrong : ChangeSpec := { name := "relTrue", fn := fun _ => fun
  | [d1, d2, d3] => { results := [.lit (.bool false)], args := [d1, d2, d3] }
  | _ => none }
def RelTrueWrongFalsely : Prop := relTrueRow.holds Try.pinned (OpenSpec.ofChange relTrueWrong)

/-- 'broadsidelaw5.RelJoint': WHATEVER THE INPUT: true; the input reads as it did. -/
def relJointSpec : ChangeSpec := { name := "relJoint", fn := fun _ => fun
  | [d1, d2] => { results := [.lit (.bool true)], args := [d1, d2] }
  | _ => none }
def relJointRow : OpenClaim := { program := "ytfabnapjbgamaaa", sum := "6519f679fdce2f778d877356574cb449556c43b72e77ffa571addb01cb5fed61", func := "broadside/broadsidelaw5.RelJoint", spec := "relJoint", inPlace := ["internal/bytealg.abigen_runtime_cmpstring", "slices.overlaps[broadside/api.Constraint]"], unfollowed := true, recurses := true, apart := false }
def RelJointSaid : Prop := relJointRow.holds Try.pinned (OpenSpec.ofChange relJointSpec)

/-- ITS FALSE NEIGHBOUR: 'it returns false'. Refute it at one input. -/
def relJointWrong : ChangeSpec := { name := "relJoint", fn := fun _ => fun
  | [d1, d2] => { results := [.lit (.bool false)], args := [d1, d2] }
  | _ => none }
def RelJointWrongFalsely : Prop := relJointRow.holds Try.pinned (OpenSpec.ofChange relJointWrong)

/- THE SECOND FORM. 'bulk': how many values and letters a reading holds, each counted each time it is reached (what is shared counts as often as it is met; a slice's spare places count too). A statement '..UptoSaid' is the law's where the arguments, and the package variables that the reading takes, are together of bulk at most 1048576: NARROWER than '..Said'. Prove '..Said' where nothing that the law and all that it calls make is longer than what came in: it says more and counts as full. Else prove '..UptoSaid'. A law counts once. -/
mutual
def uptoBulk {H : Type} : DataW H → Nat
  | .lit (.string bytes) => bytes.length + 1
  | .lit _ => 1
  | .nil => 1
  | .ptr d => uptoBulk d + 1
  | .slice elems spare => uptoBulkAll elems + uptoBulkAll spare + 1
  | .agg parts => uptoBulkAll parts + 1
  | .iface _ d => uptoBulk d + 1
  | .map entries => uptoBulkEntries entries + 1
  | .held _ => 1
def uptoBulkAll {H : Type} : List (DataW H) → Nat
  | [] => 0
  | d :: r => uptoBulk d + uptoBulkAll r
def uptoBulkEntries {H : Type} : List (Lit × DataW H) → Nat
  | [] => 0
  | x :: r => uptoBulkEntry x + uptoBulkEntries r
def uptoBulkEntry {H : Type} : Lit × DataW H → Nat
  | (.string bytes, d) => bytes.length + uptoBulk d + 1
  | (_, d) => uptoBulk d + 1
 end
def uptoSmall : (H : Type) → List (DataW H) → Bool := fun _ ds => decide (uptoBulkAll ds ≤ 1048576)
def OpenSpec.upto (s : _root_.Go.ChangeSpec) : _root_.Go.OpenSpec := { _root_.Go.OpenSpec.ofChange s with cond := some uptoSmall }

/-- 'broadsidelaw5.RelRuns', WHERE WHAT IT READS IS OF BULK AT MOST 1048576: true; the input reads as it did. -/
def relRunsUptoRow : OpenClaim := { program := "ytfabnapjbgamaaa", sum := "6519f679fdce2f778d877356574cb449556c43b72e77ffa571addb01cb5fed61", func := "broadside/broadsidelaw5.RelRuns", spec := "relRuns", inPlace := ["internal/bytealg.abigen_runtime_cmpstring", "slices.overlaps[broadside/api.Constraint]"], unfollowed := true, recurses := true, apart := false, narrowed := true }
def RelRunsUptoSaid : Prop := relRunsUptoRow.holds Try.pinned (OpenSpec.upto relRunsSpec)

/-- 'broadsidelaw5.RelTells', WHERE WHAT IT READS IS OF BULK AT MOST 1048576: true; the input reads as it did. -/
def relTellsUptoRow : OpenClaim := { program := "ytfabnapjbgamaaa", sum := "6519f679fdce2f778d877356574cb449556c43b72e77ffa571addb01cb5fed61", func := "broadside/broadsidelaw5.RelTells", spec := "relTells", inPlace := ["internal/bytealg.abigen_runtime_cmpstring", "slices.overlaps[broadside/api.Constraint]"], unfollowed := true, recurses := true, apart := false, narrowed := true }
def RelTellsUptoSaid : Prop := relTellsUptoRow.holds Try.pinned (OpenSpec.upto relTellsSpec)

/-- 'broadsidelaw5.RelLaws', WHERE WHAT IT READS IS OF BULK AT MOST 1048576: true; the input reads as it did. -/
def relLawsUptoRow : OpenClaim := { program := "ytfabnapjbgamaaa", sum := "6519f679fdce2f778d877356574cb449556c43b72e77ffa571addb01cb5fed61", func := "broadside/broadsidelaw5.RelLaws", spec := "relLaws", inPlace := ["internal/bytealg.abigen_runtime_cmpstring", "slices.overlaps[broadside/api.Constraint]"], unfollowed := true, recurses := true, apart := false, narrowed := true }
def RelLawsUptoSaid : Prop := relLawsUptoRow.holds Try.pinned (OpenSpec.upto relLawsSpec)

/-- 'broadsidelaw5.RelOne', WHERE WHAT IT READS IS OF BULK AT MOST 1048576: true; the input reads as it did. -/
def relOneUptoRow : OpenClaim := { program := "ytfabnapjbgamaaa", sum := "6519f679fdce2f778d877356574cb449556c43b72e77ffa571addb01cb5fed61", func := "broadside/broadsidelaw5.RelOne", spec := "relOne", inPlace := ["internal/bytealg.abigen_runtime_cmpstring", "slices.overlaps[broadside/api.Constraint]"], unfollowed := true, recurses := true, apart := false, narrowed := true }
def RelOneUptoSaid : Prop := relOneUptoRow.holds Try.pinned (OpenSpec.upto relOneSpec)

/-- 'broadsidelaw5.RelMore', WHERE WHAT IT READS IS OF BULK AT MOST 1048576: true; the input reads as it did. -/
def relMoreUptoRow : OpenClaim := { program := "ytfabnapjbgamaaa", sum := "6519f679fdce2f778d877356574cb449556c43b72e77ffa571addb01cb5fed61", func := "broadside/broadsidelaw5.RelMore", spec := "relMore", inPlace := ["internal/bytealg.abigen_runtime_cmpstring", "slices.overlaps[broadside/api.Constraint]"], unfollowed := true, recurses := true, apart := false, narrowed := true }
def RelMoreUptoSaid : Prop := relMoreUptoRow.holds Try.pinned (OpenSpec.upto relMoreSpec)

/-- 'broadsidelaw5.RelTrue', WHERE WHAT IT READS IS OF BULK AT MOST 1048576: true; the input reads as it did. -/
def relTrueUptoRow : OpenClaim := { program := "ytfabnapjbgamaaa", sum := "6519f679fdce2f778d877356574cb449556c43b72e77ffa571addb01cb5fed61", func := "broadside/broadsidelaw5.RelTrue", spec := "relTrue", inPlace := ["internal/bytealg.abigen_runtime_cmpstring", "slices.overlaps[broadside/api.Constraint]"], unfollowed := true, recurses := true, apart := false, narrowed := true }
def RelTrueUptoSaid : Prop := relTrueUptoRow.holds Try.pinned (OpenSpec.upto relTrueSpec)

/-- 'broadsidelaw5.RelJoint', WHERE WHAT IT READS IS OF BULK AT MOST 1048576: true; the input reads as it did. -/
def relJointUptoRow : OpenClaim := { program := "ytfabnapjbgamaaa", sum := "6519f679fdce2f778d877356574cb449556c43b72e77ffa571addb01cb5fed61", func := "broadside/broadsidelaw5.RelJoint", spec := "relJoint", inPlace := ["internal/bytealg.abigen_runtime_cmpstring", "slices.overlaps[broadside/api.Constraint]"], unfollowed := true, recurses := true, apart := false, narrowed := true }
def RelJointUptoSaid : Prop := relJointUptoRow.holds Try.pinned (OpenSpec.upto relJointSpec)

end Rows
end Go.Proofs.Ytfabnapjbgamaaa
