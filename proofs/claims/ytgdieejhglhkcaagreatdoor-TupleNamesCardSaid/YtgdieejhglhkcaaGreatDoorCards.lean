/-
  DERIVED. GIVEN WITH THE SEED: THE CARDS: each row of YtgdieejhglhkcaaGreatDoorRows.lean that lists a variable, with what it lists TIED to the program's text (the seventh form; the later family's looks); each row that meets fmt, with fmt's text TOLD by the authors' own Lean function (tested against real Go, not proved from fmt's source: count such statements apart). THE CARD IS WHAT COUNTS. Prove the row's statement (the work); the ties are given (YtgdieejhglhkcaaGreatDoorTie.lean); close each card by the builder's one call (the guide's Derived/Test/ToyasCard.lean, 'card_holds'). Laid BY PROGRAM, IN A SANDBOX (cutbox-door.mjs). By AI agents, Wed Nov 11 2026. No macro, syntax, notation, axiom, sorry.
-/
import Derived.Test.YtgdieejhglhkcaaGreatDoorRows
import GoSem.ClaimSeven
namespace Go.Proofs.YtgdieejhglhkcaaGreatDoor
namespace Rows

/-- THE TIED CARD OF 'broadsidelaw3.TupleRuns'. -/
def tupleRunsCard : Claim7 := { stood := { row := tupleRunsRow, standIns := [], harness := (true, "de202954df596748084099a0dfff50611da398d7293c38d80c8eeea0a4624408"), looks := true }, kinds := [], alts := [], laidByText := true, laidKinds := [.data, .data, .data], laidTests := true, laidLooks := .later }
def TupleRunsCardSaid : Prop := Claim7.holds Tryz.pinned (.plain (OpenSpec.ofChange tupleRunsSpec)) tupleRunsCard

/-- THE TIED CARD OF 'broadsidelaw3.TupleNames'. -/
def tupleNamesCard : Claim7 := { stood := { row := tupleNamesRow, standIns := [], harness := (true, "de202954df596748084099a0dfff50611da398d7293c38d80c8eeea0a4624408"), looks := true }, kinds := [], alts := [], laidByText := true, laidKinds := [.data, .data, .data], laidTests := true, laidLooks := .later }
def TupleNamesCardSaid : Prop := Claim7.holds Tryz.pinned (.plain (OpenSpec.ofChange tupleNamesSpec)) tupleNamesCard

/-- THE TIED CARD OF 'broadsidelaw3.TupleTells'. -/
def tupleTellsCard : Claim7 := { stood := { row := tupleTellsRow, standIns := [], harness := (true, "de202954df596748084099a0dfff50611da398d7293c38d80c8eeea0a4624408"), looks := true }, kinds := [], alts := [], laidByText := true, laidKinds := [.data, .data, .data], laidTests := true, laidLooks := .later }
def TupleTellsCardSaid : Prop := Claim7.holds Tryz.pinned (.plain (OpenSpec.ofChange tupleTellsSpec)) tupleTellsCard

/-- THE TIED CARD OF 'broadsidelaw3.TuplePuts'. -/
def tuplePutsCard : Claim7 := { stood := { row := tuplePutsRow, standIns := [], harness := (true, "de202954df596748084099a0dfff50611da398d7293c38d80c8eeea0a4624408"), looks := true }, kinds := [], alts := [], laidByText := true, laidKinds := [.data, .data, .data], laidTests := true, laidLooks := .later }
def TuplePutsCardSaid : Prop := Claim7.holds Tryz.pinned (.plain (OpenSpec.ofChange tuplePutsSpec)) tuplePutsCard

/-- THE TIED CARD OF 'broadsidelaw3.TupleGets'. -/
def tupleGetsCard : Claim7 := { stood := { row := tupleGetsRow, standIns := [], harness := (true, "de202954df596748084099a0dfff50611da398d7293c38d80c8eeea0a4624408"), looks := true }, kinds := [], alts := [], laidByText := true, laidKinds := [.data, .data, .data], laidTests := true, laidLooks := .later }
def TupleGetsCardSaid : Prop := Claim7.holds Tryz.pinned (.plain (OpenSpec.ofChange tupleGetsSpec)) tupleGetsCard

/-- THE SECOND FORM's CARD OF 'broadsidelaw3.TupleRuns'. -/
def tupleRunsUptoCard : Claim7 := { stood := { row := tupleRunsUptoRow, standIns := [], harness := (true, "de202954df596748084099a0dfff50611da398d7293c38d80c8eeea0a4624408"), looks := true }, kinds := [], alts := [], laidByText := true, laidKinds := [.data, .data, .data], laidTests := true, laidLooks := .later }
def TupleRunsUptoCardSaid : Prop := Claim7.holds Tryz.pinned (.plain (OpenSpec.upto tupleRunsSpec)) tupleRunsUptoCard

/-- THE SECOND FORM's CARD OF 'broadsidelaw3.TupleNames'. -/
def tupleNamesUptoCard : Claim7 := { stood := { row := tupleNamesUptoRow, standIns := [], harness := (true, "de202954df596748084099a0dfff50611da398d7293c38d80c8eeea0a4624408"), looks := true }, kinds := [], alts := [], laidByText := true, laidKinds := [.data, .data, .data], laidTests := true, laidLooks := .later }
def TupleNamesUptoCardSaid : Prop := Claim7.holds Tryz.pinned (.plain (OpenSpec.upto tupleNamesSpec)) tupleNamesUptoCard

/-- THE SECOND FORM's CARD OF 'broadsidelaw3.TupleTells'. -/
def tupleTellsUptoCard : Claim7 := { stood := { row := tupleTellsUptoRow, standIns := [], harness := (true, "de202954df596748084099a0dfff50611da398d7293c38d80c8eeea0a4624408"), looks := true }, kinds := [], alts := [], laidByText := true, laidKinds := [.data, .data, .data], laidTests := true, laidLooks := .later }
def TupleTellsUptoCardSaid : Prop := Claim7.holds Tryz.pinned (.plain (OpenSpec.upto tupleTellsSpec)) tupleTellsUptoCard

/-- THE SECOND FORM's CARD OF 'broadsidelaw3.TuplePuts'. -/
def tuplePutsUptoCard : Claim7 := { stood := { row := tuplePutsUptoRow, standIns := [], harness := (true, "de202954df596748084099a0dfff50611da398d7293c38d80c8eeea0a4624408"), looks := true }, kinds := [], alts := [], laidByText := true, laidKinds := [.data, .data, .data], laidTests := true, laidLooks := .later }
def TuplePutsUptoCardSaid : Prop := Claim7.holds Tryz.pinned (.plain (OpenSpec.upto tuplePutsSpec)) tuplePutsUptoCard

/-- THE SECOND FORM's CARD OF 'broadsidelaw3.TupleGets'. -/
def tupleGetsUptoCard : Claim7 := { stood := { row := tupleGetsUptoRow, standIns := [], harness := (true, "de202954df596748084099a0dfff50611da398d7293c38d80c8eeea0a4624408"), looks := true }, kinds := [], alts := [], laidByText := true, laidKinds := [.data, .data, .data], laidTests := true, laidLooks := .later }
def TupleGetsUptoCardSaid : Prop := Claim7.holds Tryz.pinned (.plain (OpenSpec.upto tupleGetsSpec)) tupleGetsUptoCard
end Rows
end Go.Proofs.YtgdieejhglhkcaaGreatDoor
