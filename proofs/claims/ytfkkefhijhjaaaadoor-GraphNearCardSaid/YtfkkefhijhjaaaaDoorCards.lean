/-
  DERIVED. GIVEN WITH THE SEED: THE CARDS: each row of YtfkkefhijhjaaaaDoorRows.lean that lists a variable, with what it lists TIED to the program's text (the seventh form; the later family's looks); each row that meets fmt, with fmt's text TOLD by the authors' own Lean function (tested against real Go, not proved from fmt's source: count such statements apart). THE CARD IS WHAT COUNTS. Prove the row's statement (the work); the ties are given (YtfkkefhijhjaaaaDoorTie.lean); close each card by the builder's one call (the guide's Derived/Test/ToyasCard.lean, 'card_holds'). Laid BY PROGRAM, IN A SANDBOX (cutbox-door.mjs). By AI agents, Wed Nov 11 2026. No macro, syntax, notation, axiom, sorry.
-/
import Derived.Test.YtfkkefhijhjaaaaDoorRows
import GoSem.ClaimSeven
namespace Go.Proofs.YtfkkefhijhjaaaaDoor
namespace Rows

/-- THE TIED CARD OF 'broadsidelaw15.QueueRuns'. -/
def queueRunsCard : Claim7 := { stood := { row := queueRunsRow, standIns := [], harness := (true, "ddb9e62be6c6d8faade7162af8e82e1ac986edaa70f21c8599a47529df2dd45b"), looks := true }, kinds := [], alts := [], laidByText := true, laidKinds := [.handle], laidTests := true, laidLooks := .later }
def QueueRunsCardSaid : Prop := Claim7.holds Tryd.pinned (.plain (OpenSpec.ofChange queueRunsSpec)) queueRunsCard

/-- THE TIED CARD OF 'broadsidelaw15.QueueOrder'. -/
def queueOrderCard : Claim7 := { stood := { row := queueOrderRow, standIns := [], harness := (true, "ddb9e62be6c6d8faade7162af8e82e1ac986edaa70f21c8599a47529df2dd45b"), looks := true }, kinds := [], alts := [], laidByText := true, laidKinds := [.handle], laidTests := true, laidLooks := .later }
def QueueOrderCardSaid : Prop := Claim7.holds Tryd.pinned (.plain (OpenSpec.ofChange queueOrderSpec)) queueOrderCard

/-- THE TIED CARD OF 'broadsidelaw15.QueueLinks'. -/
def queueLinksCard : Claim7 := { stood := { row := queueLinksRow, standIns := [], harness := (true, "ddb9e62be6c6d8faade7162af8e82e1ac986edaa70f21c8599a47529df2dd45b"), looks := true }, kinds := [], alts := [], laidByText := true, laidKinds := [.handle], laidTests := true, laidLooks := .later }
def QueueLinksCardSaid : Prop := Claim7.holds Tryd.pinned (.plain (OpenSpec.ofChange queueLinksSpec)) queueLinksCard

/-- THE TIED CARD OF 'broadsidelaw6.GraphRuns'. -/
def graphRunsCard : Claim7 := { stood := { row := graphRunsRow, standIns := [], harness := (true, "ddb9e62be6c6d8faade7162af8e82e1ac986edaa70f21c8599a47529df2dd45b"), looks := true }, kinds := [], alts := [], laidByText := true, laidKinds := [.handle], laidTests := true, laidLooks := .later }
def GraphRunsCardSaid : Prop := Claim7.holds Tryd.pinned (.plain (OpenSpec.ofChange graphRunsSpec)) graphRunsCard

/-- THE TIED CARD OF 'broadsidelaw6.GraphTells'. -/
def graphTellsCard : Claim7 := { stood := { row := graphTellsRow, standIns := [], harness := (true, "ddb9e62be6c6d8faade7162af8e82e1ac986edaa70f21c8599a47529df2dd45b"), looks := true }, kinds := [], alts := [], laidByText := true, laidKinds := [.handle], laidTests := true, laidLooks := .later }
def GraphTellsCardSaid : Prop := Claim7.holds Tryd.pinned (.plain (OpenSpec.ofChange graphTellsSpec)) graphTellsCard

/-- THE TIED CARD OF 'broadsidelaw6.GraphWays'. -/
def graphWaysCard : Claim7 := { stood := { row := graphWaysRow, standIns := [], harness := (true, "ddb9e62be6c6d8faade7162af8e82e1ac986edaa70f21c8599a47529df2dd45b"), looks := true }, kinds := [], alts := [], laidByText := true, laidKinds := [.handle], laidTests := true, laidLooks := .later }
def GraphWaysCardSaid : Prop := Claim7.holds Tryd.pinned (.plain (OpenSpec.ofChange graphWaysSpec)) graphWaysCard

/-- THE TIED CARD OF 'broadsidelaw6.GraphFar'. -/
def graphFarCard : Claim7 := { stood := { row := graphFarRow, standIns := [], harness := (true, "ddb9e62be6c6d8faade7162af8e82e1ac986edaa70f21c8599a47529df2dd45b"), looks := true }, kinds := [], alts := [], laidByText := true, laidKinds := [.handle], laidTests := true, laidLooks := .later }
def GraphFarCardSaid : Prop := Claim7.holds Tryd.pinned (.plain (OpenSpec.ofChange graphFarSpec)) graphFarCard

/-- THE TIED CARD OF 'broadsidelaw6.GraphNear'. -/
def graphNearCard : Claim7 := { stood := { row := graphNearRow, standIns := [], harness := (true, "ddb9e62be6c6d8faade7162af8e82e1ac986edaa70f21c8599a47529df2dd45b"), looks := true }, kinds := [], alts := [], laidByText := true, laidKinds := [.handle], laidTests := true, laidLooks := .later }
def GraphNearCardSaid : Prop := Claim7.holds Tryd.pinned (.plain (OpenSpec.ofChange graphNearSpec)) graphNearCard

/-- THE TIED CARD OF 'broadsidelaw6.GraphBad'. -/
def graphBadCard : Claim7 := { stood := { row := graphBadRow, standIns := [], harness := (true, "ddb9e62be6c6d8faade7162af8e82e1ac986edaa70f21c8599a47529df2dd45b"), looks := true }, kinds := [], alts := [], laidByText := true, laidKinds := [.handle], laidTests := true, laidLooks := .later }
def GraphBadCardSaid : Prop := Claim7.holds Tryd.pinned (.plain (OpenSpec.ofChange graphBadSpec)) graphBadCard

/-- THE SECOND FORM's CARD OF 'broadsidelaw15.QueueRuns'. -/
def queueRunsUptoCard : Claim7 := { stood := { row := queueRunsUptoRow, standIns := [], harness := (true, "ddb9e62be6c6d8faade7162af8e82e1ac986edaa70f21c8599a47529df2dd45b"), looks := true }, kinds := [], alts := [], laidByText := true, laidKinds := [.handle], laidTests := true, laidLooks := .later }
def QueueRunsUptoCardSaid : Prop := Claim7.holds Tryd.pinned (.plain (OpenSpec.upto queueRunsSpec)) queueRunsUptoCard

/-- THE SECOND FORM's CARD OF 'broadsidelaw15.QueueOrder'. -/
def queueOrderUptoCard : Claim7 := { stood := { row := queueOrderUptoRow, standIns := [], harness := (true, "ddb9e62be6c6d8faade7162af8e82e1ac986edaa70f21c8599a47529df2dd45b"), looks := true }, kinds := [], alts := [], laidByText := true, laidKinds := [.handle], laidTests := true, laidLooks := .later }
def QueueOrderUptoCardSaid : Prop := Claim7.holds Tryd.pinned (.plain (OpenSpec.upto queueOrderSpec)) queueOrderUptoCard

/-- THE SECOND FORM's CARD OF 'broadsidelaw15.QueueLinks'. -/
def queueLinksUptoCard : Claim7 := { stood := { row := queueLinksUptoRow, standIns := [], harness := (true, "ddb9e62be6c6d8faade7162af8e82e1ac986edaa70f21c8599a47529df2dd45b"), looks := true }, kinds := [], alts := [], laidByText := true, laidKinds := [.handle], laidTests := true, laidLooks := .later }
def QueueLinksUptoCardSaid : Prop := Claim7.holds Tryd.pinned (.plain (OpenSpec.upto queueLinksSpec)) queueLinksUptoCard

/-- THE SECOND FORM's CARD OF 'broadsidelaw6.GraphRuns'. -/
def graphRunsUptoCard : Claim7 := { stood := { row := graphRunsUptoRow, standIns := [], harness := (true, "ddb9e62be6c6d8faade7162af8e82e1ac986edaa70f21c8599a47529df2dd45b"), looks := true }, kinds := [], alts := [], laidByText := true, laidKinds := [.handle], laidTests := true, laidLooks := .later }
def GraphRunsUptoCardSaid : Prop := Claim7.holds Tryd.pinned (.plain (OpenSpec.upto graphRunsSpec)) graphRunsUptoCard

/-- THE SECOND FORM's CARD OF 'broadsidelaw6.GraphTells'. -/
def graphTellsUptoCard : Claim7 := { stood := { row := graphTellsUptoRow, standIns := [], harness := (true, "ddb9e62be6c6d8faade7162af8e82e1ac986edaa70f21c8599a47529df2dd45b"), looks := true }, kinds := [], alts := [], laidByText := true, laidKinds := [.handle], laidTests := true, laidLooks := .later }
def GraphTellsUptoCardSaid : Prop := Claim7.holds Tryd.pinned (.plain (OpenSpec.upto graphTellsSpec)) graphTellsUptoCard

/-- THE SECOND FORM's CARD OF 'broadsidelaw6.GraphWays'. -/
def graphWaysUptoCard : Claim7 := { stood := { row := graphWaysUptoRow, standIns := [], harness := (true, "ddb9e62be6c6d8faade7162af8e82e1ac986edaa70f21c8599a47529df2dd45b"), looks := true }, kinds := [], alts := [], laidByText := true, laidKinds := [.handle], laidTests := true, laidLooks := .later }
def GraphWaysUptoCardSaid : Prop := Claim7.holds Tryd.pinned (.plain (OpenSpec.upto graphWaysSpec)) graphWaysUptoCard

/-- THE SECOND FORM's CARD OF 'broadsidelaw6.GraphFar'. -/
def graphFarUptoCard : Claim7 := { stood := { row := graphFarUptoRow, standIns := [], harness := (true, "ddb9e62be6c6d8faade7162af8e82e1ac986edaa70f21c8599a47529df2dd45b"), looks := true }, kinds := [], alts := [], laidByText := true, laidKinds := [.handle], laidTests := true, laidLooks := .later }
def GraphFarUptoCardSaid : Prop := Claim7.holds Tryd.pinned (.plain (OpenSpec.upto graphFarSpec)) graphFarUptoCard

/-- THE SECOND FORM's CARD OF 'broadsidelaw6.GraphNear'. -/
def graphNearUptoCard : Claim7 := { stood := { row := graphNearUptoRow, standIns := [], harness := (true, "ddb9e62be6c6d8faade7162af8e82e1ac986edaa70f21c8599a47529df2dd45b"), looks := true }, kinds := [], alts := [], laidByText := true, laidKinds := [.handle], laidTests := true, laidLooks := .later }
def GraphNearUptoCardSaid : Prop := Claim7.holds Tryd.pinned (.plain (OpenSpec.upto graphNearSpec)) graphNearUptoCard

/-- THE SECOND FORM's CARD OF 'broadsidelaw6.GraphBad'. -/
def graphBadUptoCard : Claim7 := { stood := { row := graphBadUptoRow, standIns := [], harness := (true, "ddb9e62be6c6d8faade7162af8e82e1ac986edaa70f21c8599a47529df2dd45b"), looks := true }, kinds := [], alts := [], laidByText := true, laidKinds := [.handle], laidTests := true, laidLooks := .later }
def GraphBadUptoCardSaid : Prop := Claim7.holds Tryd.pinned (.plain (OpenSpec.upto graphBadSpec)) graphBadUptoCard
end Rows
end Go.Proofs.YtfkkefhijhjaaaaDoor
