/-
  DERIVED. GIVEN WITH THE SEED: THE CARDS: each row of YtfabnapjbgamaaaGreatDoorRows.lean that lists a variable, with what it lists TIED to the program's text (the seventh form; the later family's looks); each row that meets fmt, with fmt's text TOLD by the authors' own Lean function (tested against real Go, not proved from fmt's source: count such statements apart). THE CARD IS WHAT COUNTS. Prove the row's statement (the work); the ties are given (YtfabnapjbgamaaaGreatDoorTie.lean); close each card by the builder's one call (the guide's Derived/Test/ToyasCard.lean, 'card_holds'). Laid BY PROGRAM, IN A SANDBOX (cutbox-door.mjs). By AI agents, Wed Nov 11 2026. No macro, syntax, notation, axiom, sorry.
-/
import Derived.Test.YtfabnapjbgamaaaGreatDoorRows
import GoSem.ClaimSeven
namespace Go.Proofs.YtfabnapjbgamaaaGreatDoor
namespace Rows

/-- THE TIED CARD OF 'broadsidelaw4.PredRuns'. -/
def predRunsCard : Claim7 := { stood := { row := predRunsRow, standIns := [], harness := (true, "1d848dc5fbbe235b990df5c8e304190fb92e57f076ec4c3b01c0f89c2f6a92f9"), looks := true }, kinds := [], alts := [], laidByText := true, laidKinds := [.data, .data, .data, .handle], laidTests := true, laidLooks := .later }
def PredRunsCardSaid : Prop := Claim7.holds Tryz.pinned (.plain (OpenSpec.ofChange predRunsSpec)) predRunsCard

/-- THE TIED CARD OF 'broadsidelaw4.PredPrefixes'. -/
def predPrefixesCard : Claim7 := { stood := { row := predPrefixesRow, standIns := [], harness := (true, "1d848dc5fbbe235b990df5c8e304190fb92e57f076ec4c3b01c0f89c2f6a92f9"), looks := true }, kinds := [], alts := [], laidByText := true, laidKinds := [.data, .data, .data, .handle], laidTests := true, laidLooks := .later }
def PredPrefixesCardSaid : Prop := Claim7.holds Tryz.pinned (.plain (OpenSpec.ofChange predPrefixesSpec)) predPrefixesCard

/-- THE TIED CARD OF 'broadsidelaw4.PredMeets'. -/
def predMeetsCard : Claim7 := { stood := { row := predMeetsRow, standIns := [], harness := (true, "1d848dc5fbbe235b990df5c8e304190fb92e57f076ec4c3b01c0f89c2f6a92f9"), looks := true }, kinds := [], alts := [], laidByText := true, laidKinds := [.data, .data, .data, .handle], laidTests := true, laidLooks := .later }
def PredMeetsCardSaid : Prop := Claim7.holds Tryz.pinned (.plain (OpenSpec.ofChange predMeetsSpec)) predMeetsCard

/-- THE TIED CARD OF 'broadsidelaw4.PredForms'. -/
def predFormsCard : Claim7 := { stood := { row := predFormsRow, standIns := [], harness := (true, "1d848dc5fbbe235b990df5c8e304190fb92e57f076ec4c3b01c0f89c2f6a92f9"), looks := true }, kinds := [], alts := [], laidByText := true, laidKinds := [.data, .data, .data, .handle], laidTests := true, laidLooks := .later }
def PredFormsCardSaid : Prop := Claim7.holds Tryz.pinned (.plain (OpenSpec.ofChange predFormsSpec)) predFormsCard

/-- THE TIED CARD OF 'broadsidelaw4.PredLimits'. -/
def predLimitsCard : Claim7 := { stood := { row := predLimitsRow, standIns := [], harness := (true, "1d848dc5fbbe235b990df5c8e304190fb92e57f076ec4c3b01c0f89c2f6a92f9"), looks := true }, kinds := [], alts := [], laidByText := true, laidKinds := [.data, .data, .data, .handle], laidTests := true, laidLooks := .later }
def PredLimitsCardSaid : Prop := Claim7.holds Tryz.pinned (.plain (OpenSpec.ofChange predLimitsSpec)) predLimitsCard

/-- THE SECOND FORM's CARD OF 'broadsidelaw4.PredRuns'. -/
def predRunsUptoCard : Claim7 := { stood := { row := predRunsUptoRow, standIns := [], harness := (true, "1d848dc5fbbe235b990df5c8e304190fb92e57f076ec4c3b01c0f89c2f6a92f9"), looks := true }, kinds := [], alts := [], laidByText := true, laidKinds := [.data, .data, .data, .handle], laidTests := true, laidLooks := .later }
def PredRunsUptoCardSaid : Prop := Claim7.holds Tryz.pinned (.plain (OpenSpec.upto predRunsSpec)) predRunsUptoCard

/-- THE SECOND FORM's CARD OF 'broadsidelaw4.PredPrefixes'. -/
def predPrefixesUptoCard : Claim7 := { stood := { row := predPrefixesUptoRow, standIns := [], harness := (true, "1d848dc5fbbe235b990df5c8e304190fb92e57f076ec4c3b01c0f89c2f6a92f9"), looks := true }, kinds := [], alts := [], laidByText := true, laidKinds := [.data, .data, .data, .handle], laidTests := true, laidLooks := .later }
def PredPrefixesUptoCardSaid : Prop := Claim7.holds Tryz.pinned (.plain (OpenSpec.upto predPrefixesSpec)) predPrefixesUptoCard

/-- THE SECOND FORM's CARD OF 'broadsidelaw4.PredMeets'. -/
def predMeetsUptoCard : Claim7 := { stood := { row := predMeetsUptoRow, standIns := [], harness := (true, "1d848dc5fbbe235b990df5c8e304190fb92e57f076ec4c3b01c0f89c2f6a92f9"), looks := true }, kinds := [], alts := [], laidByText := true, laidKinds := [.data, .data, .data, .handle], laidTests := true, laidLooks := .later }
def PredMeetsUptoCardSaid : Prop := Claim7.holds Tryz.pinned (.plain (OpenSpec.upto predMeetsSpec)) predMeetsUptoCard

/-- THE SECOND FORM's CARD OF 'broadsidelaw4.PredForms'. -/
def predFormsUptoCard : Claim7 := { stood := { row := predFormsUptoRow, standIns := [], harness := (true, "1d848dc5fbbe235b990df5c8e304190fb92e57f076ec4c3b01c0f89c2f6a92f9"), looks := true }, kinds := [], alts := [], laidByText := true, laidKinds := [.data, .data, .data, .handle], laidTests := true, laidLooks := .later }
def PredFormsUptoCardSaid : Prop := Claim7.holds Tryz.pinned (.plain (OpenSpec.upto predFormsSpec)) predFormsUptoCard

/-- THE SECOND FORM's CARD OF 'broadsidelaw4.PredLimits'. -/
def predLimitsUptoCard : Claim7 := { stood := { row := predLimitsUptoRow, standIns := [], harness := (true, "1d848dc5fbbe235b990df5c8e304190fb92e57f076ec4c3b01c0f89c2f6a92f9"), looks := true }, kinds := [], alts := [], laidByText := true, laidKinds := [.data, .data, .data, .handle], laidTests := true, laidLooks := .later }
def PredLimitsUptoCardSaid : Prop := Claim7.holds Tryz.pinned (.plain (OpenSpec.upto predLimitsSpec)) predLimitsUptoCard
end Rows
end Go.Proofs.YtfabnapjbgamaaaGreatDoor
