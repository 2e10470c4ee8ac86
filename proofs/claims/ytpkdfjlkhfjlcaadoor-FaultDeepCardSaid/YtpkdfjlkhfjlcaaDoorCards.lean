/-
  DERIVED. GIVEN WITH THE SEED: THE CARDS: each row of YtpkdfjlkhfjlcaaDoorRows.lean that lists a variable, with what it lists TIED to the program's text (the seventh form; the later family's looks); each row that meets fmt, with fmt's text TOLD by the authors' own Lean function (tested against real Go, not proved from fmt's source: count such statements apart). THE CARD IS WHAT COUNTS. Prove the row's statement (the work); the ties are given (YtpkdfjlkhfjlcaaDoorTie.lean); close each card by the builder's one call (the guide's Derived/Test/ToyasCard.lean, 'card_holds'). Laid BY PROGRAM, IN A SANDBOX (cutbox-door.mjs). By AI agents, Wed Nov 11 2026. No macro, syntax, notation, axiom, sorry.
-/
import Derived.Test.YtpkdfjlkhfjlcaaDoorRows
import GoSem.ClaimSeven
namespace Go.Proofs.YtpkdfjlkhfjlcaaDoor
namespace Rows

/-- THE TIED CARD OF 'broadsidelaw1.FaultRuns'. -/
def faultRunsCard : Claim7 := { stood := { row := faultRunsRow, standIns := [], harness := (true, "594ae818ccf45da5ee6755f6fe15fe008c78c81a88d5f6042142cec4b75566ae"), looks := true }, kinds := [], alts := [], laidByText := true, laidKinds := [.handle], laidTests := true, laidLooks := .later }
def FaultRunsCardSaid : Prop := Claim7.holds Tryd.pinned (.plain (OpenSpec.ofChange faultRunsSpec)) faultRunsCard

/-- THE TIED CARD OF 'broadsidelaw1.FaultTells'. -/
def faultTellsCard : Claim7 := { stood := { row := faultTellsRow, standIns := [], harness := (true, "594ae818ccf45da5ee6755f6fe15fe008c78c81a88d5f6042142cec4b75566ae"), looks := true }, kinds := [], alts := [], laidByText := true, laidKinds := [.handle], laidTests := true, laidLooks := .later }
def FaultTellsCardSaid : Prop := Claim7.holds Tryd.pinned (.plain (OpenSpec.ofChange faultTellsSpec)) faultTellsCard

/-- THE TIED CARD OF 'broadsidelaw1.FaultWraps'. -/
def faultWrapsCard : Claim7 := { stood := { row := faultWrapsRow, standIns := [], harness := (true, "594ae818ccf45da5ee6755f6fe15fe008c78c81a88d5f6042142cec4b75566ae"), looks := true }, kinds := [], alts := [], laidByText := true, laidKinds := [.handle], laidTests := true, laidLooks := .later }
def FaultWrapsCardSaid : Prop := Claim7.holds Tryd.pinned (.plain (OpenSpec.ofChange faultWrapsSpec)) faultWrapsCard

/-- THE TIED CARD OF 'broadsidelaw1.FaultDeep'. -/
def faultDeepCard : Claim7 := { stood := { row := faultDeepRow, standIns := [], harness := (true, "594ae818ccf45da5ee6755f6fe15fe008c78c81a88d5f6042142cec4b75566ae"), looks := true }, kinds := [], alts := [], laidByText := true, laidKinds := [.handle], laidTests := true, laidLooks := .later }
def FaultDeepCardSaid : Prop := Claim7.holds Tryd.pinned (.plain (OpenSpec.ofChange faultDeepSpec)) faultDeepCard

/-- THE TIED CARD OF 'broadsidelaw2.ValueRuns'. -/
def valueRunsCard : Claim7 := { stood := { row := valueRunsRow, standIns := [], harness := (true, "594ae818ccf45da5ee6755f6fe15fe008c78c81a88d5f6042142cec4b75566ae"), looks := true }, kinds := [], alts := [], laidByText := true, laidKinds := [.data, .data, .data], laidTests := true, laidLooks := .later }
def ValueRunsCardSaid : Prop := Claim7.holds Tryd.pinned (.plain (OpenSpec.ofChange valueRunsSpec)) valueRunsCard

/-- THE TIED CARD OF 'broadsidelaw2.ValueTells'. -/
def valueTellsCard : Claim7 := { stood := { row := valueTellsRow, standIns := [], harness := (true, "594ae818ccf45da5ee6755f6fe15fe008c78c81a88d5f6042142cec4b75566ae"), looks := true }, kinds := [], alts := [], laidByText := true, laidKinds := [.data, .data, .data], laidTests := true, laidLooks := .later }
def ValueTellsCardSaid : Prop := Claim7.holds Tryd.pinned (.plain (OpenSpec.ofChange valueTellsSpec)) valueTellsCard

/-- THE TIED CARD OF 'broadsidelaw2.ValueOrder'. -/
def valueOrderCard : Claim7 := { stood := { row := valueOrderRow, standIns := [], harness := (true, "594ae818ccf45da5ee6755f6fe15fe008c78c81a88d5f6042142cec4b75566ae"), looks := true }, kinds := [], alts := [], laidByText := true, laidKinds := [.data, .data, .data], laidTests := true, laidLooks := .later }
def ValueOrderCardSaid : Prop := Claim7.holds Tryd.pinned (.plain (OpenSpec.ofChange valueOrderSpec)) valueOrderCard

/-- THE TIED CARD OF 'broadsidelaw2.ValueSorts'. -/
def valueSortsCard : Claim7 := { stood := { row := valueSortsRow, standIns := [], harness := (true, "594ae818ccf45da5ee6755f6fe15fe008c78c81a88d5f6042142cec4b75566ae"), looks := true }, kinds := [], alts := [], laidByText := true, laidKinds := [.data, .data, .data], laidTests := true, laidLooks := .later }
def ValueSortsCardSaid : Prop := Claim7.holds Tryd.pinned (.plain (OpenSpec.ofChange valueSortsSpec)) valueSortsCard

/-- THE TIED CARD OF 'broadsidelaw2.ValueSays'. -/
def valueSaysCard : Claim7 := { stood := { row := valueSaysRow, standIns := [], harness := (true, "594ae818ccf45da5ee6755f6fe15fe008c78c81a88d5f6042142cec4b75566ae"), looks := true }, kinds := [], alts := [], laidByText := true, laidKinds := [.data, .data, .data], laidTests := true, laidLooks := .later }
def ValueSaysCardSaid : Prop := Claim7.holds Tryd.pinned (.plain (OpenSpec.ofChange valueSaysSpec)) valueSaysCard

/-- THE SECOND FORM's CARD OF 'broadsidelaw1.FaultRuns'. -/
def faultRunsUptoCard : Claim7 := { stood := { row := faultRunsUptoRow, standIns := [], harness := (true, "594ae818ccf45da5ee6755f6fe15fe008c78c81a88d5f6042142cec4b75566ae"), looks := true }, kinds := [], alts := [], laidByText := true, laidKinds := [.handle], laidTests := true, laidLooks := .later }
def FaultRunsUptoCardSaid : Prop := Claim7.holds Tryd.pinned (.plain (OpenSpec.upto faultRunsSpec)) faultRunsUptoCard

/-- THE SECOND FORM's CARD OF 'broadsidelaw1.FaultTells'. -/
def faultTellsUptoCard : Claim7 := { stood := { row := faultTellsUptoRow, standIns := [], harness := (true, "594ae818ccf45da5ee6755f6fe15fe008c78c81a88d5f6042142cec4b75566ae"), looks := true }, kinds := [], alts := [], laidByText := true, laidKinds := [.handle], laidTests := true, laidLooks := .later }
def FaultTellsUptoCardSaid : Prop := Claim7.holds Tryd.pinned (.plain (OpenSpec.upto faultTellsSpec)) faultTellsUptoCard

/-- THE SECOND FORM's CARD OF 'broadsidelaw1.FaultWraps'. -/
def faultWrapsUptoCard : Claim7 := { stood := { row := faultWrapsUptoRow, standIns := [], harness := (true, "594ae818ccf45da5ee6755f6fe15fe008c78c81a88d5f6042142cec4b75566ae"), looks := true }, kinds := [], alts := [], laidByText := true, laidKinds := [.handle], laidTests := true, laidLooks := .later }
def FaultWrapsUptoCardSaid : Prop := Claim7.holds Tryd.pinned (.plain (OpenSpec.upto faultWrapsSpec)) faultWrapsUptoCard

/-- THE SECOND FORM's CARD OF 'broadsidelaw1.FaultDeep'. -/
def faultDeepUptoCard : Claim7 := { stood := { row := faultDeepUptoRow, standIns := [], harness := (true, "594ae818ccf45da5ee6755f6fe15fe008c78c81a88d5f6042142cec4b75566ae"), looks := true }, kinds := [], alts := [], laidByText := true, laidKinds := [.handle], laidTests := true, laidLooks := .later }
def FaultDeepUptoCardSaid : Prop := Claim7.holds Tryd.pinned (.plain (OpenSpec.upto faultDeepSpec)) faultDeepUptoCard

/-- THE SECOND FORM's CARD OF 'broadsidelaw2.ValueRuns'. -/
def valueRunsUptoCard : Claim7 := { stood := { row := valueRunsUptoRow, standIns := [], harness := (true, "594ae818ccf45da5ee6755f6fe15fe008c78c81a88d5f6042142cec4b75566ae"), looks := true }, kinds := [], alts := [], laidByText := true, laidKinds := [.data, .data, .data], laidTests := true, laidLooks := .later }
def ValueRunsUptoCardSaid : Prop := Claim7.holds Tryd.pinned (.plain (OpenSpec.upto valueRunsSpec)) valueRunsUptoCard

/-- THE SECOND FORM's CARD OF 'broadsidelaw2.ValueTells'. -/
def valueTellsUptoCard : Claim7 := { stood := { row := valueTellsUptoRow, standIns := [], harness := (true, "594ae818ccf45da5ee6755f6fe15fe008c78c81a88d5f6042142cec4b75566ae"), looks := true }, kinds := [], alts := [], laidByText := true, laidKinds := [.data, .data, .data], laidTests := true, laidLooks := .later }
def ValueTellsUptoCardSaid : Prop := Claim7.holds Tryd.pinned (.plain (OpenSpec.upto valueTellsSpec)) valueTellsUptoCard

/-- THE SECOND FORM's CARD OF 'broadsidelaw2.ValueOrder'. -/
def valueOrderUptoCard : Claim7 := { stood := { row := valueOrderUptoRow, standIns := [], harness := (true, "594ae818ccf45da5ee6755f6fe15fe008c78c81a88d5f6042142cec4b75566ae"), looks := true }, kinds := [], alts := [], laidByText := true, laidKinds := [.data, .data, .data], laidTests := true, laidLooks := .later }
def ValueOrderUptoCardSaid : Prop := Claim7.holds Tryd.pinned (.plain (OpenSpec.upto valueOrderSpec)) valueOrderUptoCard

/-- THE SECOND FORM's CARD OF 'broadsidelaw2.ValueSorts'. -/
def valueSortsUptoCard : Claim7 := { stood := { row := valueSortsUptoRow, standIns := [], harness := (true, "594ae818ccf45da5ee6755f6fe15fe008c78c81a88d5f6042142cec4b75566ae"), looks := true }, kinds := [], alts := [], laidByText := true, laidKinds := [.data, .data, .data], laidTests := true, laidLooks := .later }
def ValueSortsUptoCardSaid : Prop := Claim7.holds Tryd.pinned (.plain (OpenSpec.upto valueSortsSpec)) valueSortsUptoCard

/-- THE SECOND FORM's CARD OF 'broadsidelaw2.ValueSays'. -/
def valueSaysUptoCard : Claim7 := { stood := { row := valueSaysUptoRow, standIns := [], harness := (true, "594ae818ccf45da5ee6755f6fe15fe008c78c81a88d5f6042142cec4b75566ae"), looks := true }, kinds := [], alts := [], laidByText := true, laidKinds := [.data, .data, .data], laidTests := true, laidLooks := .later }
def ValueSaysUptoCardSaid : Prop := Claim7.holds Tryd.pinned (.plain (OpenSpec.upto valueSaysSpec)) valueSaysUptoCard
end Rows
end Go.Proofs.YtpkdfjlkhfjlcaaDoor
