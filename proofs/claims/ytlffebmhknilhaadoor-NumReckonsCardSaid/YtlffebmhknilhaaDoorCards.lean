/-
  DERIVED. GIVEN WITH THE SEED: THE CARDS: each row of YtlffebmhknilhaaDoorRows.lean that lists a variable, with what it lists TIED to the program's text (the seventh form; the later family's looks); each row that meets fmt, with fmt's text TOLD by the authors' own Lean function (tested against real Go, not proved from fmt's source: count such statements apart). THE CARD IS WHAT COUNTS. Prove the row's statement (the work); the ties are given (YtlffebmhknilhaaDoorTie.lean); close each card by the builder's one call (the guide's Derived/Test/ToyasCard.lean, 'card_holds'). Laid BY PROGRAM, IN A SANDBOX (cutbox-door.mjs). By AI agents, Wed Nov 11 2026. No macro, syntax, notation, axiom, sorry.
-/
import Derived.Test.YtlffebmhknilhaaDoorRows
import GoSem.ClaimSeven
namespace Go.Proofs.YtlffebmhknilhaaDoor
namespace Rows

/-- THE TIED CARD OF 'waywiserlaw03.NumParses'. -/
def numParsesCard : Claim7 := { stood := { row := numParsesRow, standIns := [], harness := (true, "a8ed7bf42d3c4cbb9d5063d916b5365f65ad7af4bda6623610e6891ab82a351a"), looks := false }, kinds := [], alts := [], laidByText := true, laidKinds := [.data, .data, .data, .data, .pinned], laidTests := true, laidLooks := .later }
def NumParsesCardSaid : Prop := Claim7.holds Tryd.pinned (.plain (OpenSpec.ofChange numParsesSpec)) numParsesCard

/-- THE TIED CARD OF 'waywiserlaw03.NumPrints'. -/
def numPrintsCard : Claim7 := { stood := { row := numPrintsRow, standIns := [], harness := (true, "a8ed7bf42d3c4cbb9d5063d916b5365f65ad7af4bda6623610e6891ab82a351a"), looks := false }, kinds := [], alts := [], laidByText := true, laidKinds := [.data, .data, .data, .data, .pinned], laidTests := true, laidLooks := .later }
def NumPrintsCardSaid : Prop := Claim7.holds Tryd.pinned (.plain (OpenSpec.ofChange numPrintsSpec)) numPrintsCard

/-- THE TIED CARD OF 'waywiserlaw03.NumBack'. -/
def numBackCard : Claim7 := { stood := { row := numBackRow, standIns := [], harness := (true, "a8ed7bf42d3c4cbb9d5063d916b5365f65ad7af4bda6623610e6891ab82a351a"), looks := false }, kinds := [], alts := [], laidByText := true, laidKinds := [.data, .data, .data, .data, .pinned], laidTests := true, laidLooks := .later }
def NumBackCardSaid : Prop := Claim7.holds Tryd.pinned (.plain (OpenSpec.ofChange numBackSpec)) numBackCard

/-- THE TIED CARD OF 'waywiserlaw03.NumShifts'. -/
def numShiftsCard : Claim7 := { stood := { row := numShiftsRow, standIns := [], harness := (true, "a8ed7bf42d3c4cbb9d5063d916b5365f65ad7af4bda6623610e6891ab82a351a"), looks := false }, kinds := [], alts := [], laidByText := true, laidKinds := [.data, .data, .data, .data, .pinned], laidTests := true, laidLooks := .later }
def NumShiftsCardSaid : Prop := Claim7.holds Tryd.pinned (.plain (OpenSpec.ofChange numShiftsSpec)) numShiftsCard

/-- THE TIED CARD OF 'waywiserlaw03.NumReckons'. -/
def numReckonsCard : Claim7 := { stood := { row := numReckonsRow, standIns := [], harness := (true, "a8ed7bf42d3c4cbb9d5063d916b5365f65ad7af4bda6623610e6891ab82a351a"), looks := false }, kinds := [], alts := [], laidByText := true, laidKinds := [.data, .data, .data, .data, .pinned], laidTests := true, laidLooks := .later }
def NumReckonsCardSaid : Prop := Claim7.holds Tryd.pinned (.plain (OpenSpec.ofChange numReckonsSpec)) numReckonsCard

/-- THE TIED CARD OF 'waywiserlaw03.NumLaws'. -/
def numLawsCard : Claim7 := { stood := { row := numLawsRow, standIns := [], harness := (true, "a8ed7bf42d3c4cbb9d5063d916b5365f65ad7af4bda6623610e6891ab82a351a"), looks := false }, kinds := [], alts := [], laidByText := true, laidKinds := [.data, .data, .data, .data, .pinned], laidTests := true, laidLooks := .later }
def NumLawsCardSaid : Prop := Claim7.holds Tryd.pinned (.plain (OpenSpec.ofChange numLawsSpec)) numLawsCard

/-- THE SECOND FORM's CARD OF 'waywiserlaw03.NumParses'. -/
def numParsesUptoCard : Claim7 := { stood := { row := numParsesUptoRow, standIns := [], harness := (true, "a8ed7bf42d3c4cbb9d5063d916b5365f65ad7af4bda6623610e6891ab82a351a"), looks := false }, kinds := [], alts := [], laidByText := true, laidKinds := [.data, .data, .data, .data, .pinned], laidTests := true, laidLooks := .later }
def NumParsesUptoCardSaid : Prop := Claim7.holds Tryd.pinned (.plain (OpenSpec.upto numParsesSpec)) numParsesUptoCard

/-- THE SECOND FORM's CARD OF 'waywiserlaw03.NumPrints'. -/
def numPrintsUptoCard : Claim7 := { stood := { row := numPrintsUptoRow, standIns := [], harness := (true, "a8ed7bf42d3c4cbb9d5063d916b5365f65ad7af4bda6623610e6891ab82a351a"), looks := false }, kinds := [], alts := [], laidByText := true, laidKinds := [.data, .data, .data, .data, .pinned], laidTests := true, laidLooks := .later }
def NumPrintsUptoCardSaid : Prop := Claim7.holds Tryd.pinned (.plain (OpenSpec.upto numPrintsSpec)) numPrintsUptoCard

/-- THE SECOND FORM's CARD OF 'waywiserlaw03.NumBack'. -/
def numBackUptoCard : Claim7 := { stood := { row := numBackUptoRow, standIns := [], harness := (true, "a8ed7bf42d3c4cbb9d5063d916b5365f65ad7af4bda6623610e6891ab82a351a"), looks := false }, kinds := [], alts := [], laidByText := true, laidKinds := [.data, .data, .data, .data, .pinned], laidTests := true, laidLooks := .later }
def NumBackUptoCardSaid : Prop := Claim7.holds Tryd.pinned (.plain (OpenSpec.upto numBackSpec)) numBackUptoCard

/-- THE SECOND FORM's CARD OF 'waywiserlaw03.NumShifts'. -/
def numShiftsUptoCard : Claim7 := { stood := { row := numShiftsUptoRow, standIns := [], harness := (true, "a8ed7bf42d3c4cbb9d5063d916b5365f65ad7af4bda6623610e6891ab82a351a"), looks := false }, kinds := [], alts := [], laidByText := true, laidKinds := [.data, .data, .data, .data, .pinned], laidTests := true, laidLooks := .later }
def NumShiftsUptoCardSaid : Prop := Claim7.holds Tryd.pinned (.plain (OpenSpec.upto numShiftsSpec)) numShiftsUptoCard

/-- THE SECOND FORM's CARD OF 'waywiserlaw03.NumReckons'. -/
def numReckonsUptoCard : Claim7 := { stood := { row := numReckonsUptoRow, standIns := [], harness := (true, "a8ed7bf42d3c4cbb9d5063d916b5365f65ad7af4bda6623610e6891ab82a351a"), looks := false }, kinds := [], alts := [], laidByText := true, laidKinds := [.data, .data, .data, .data, .pinned], laidTests := true, laidLooks := .later }
def NumReckonsUptoCardSaid : Prop := Claim7.holds Tryd.pinned (.plain (OpenSpec.upto numReckonsSpec)) numReckonsUptoCard

/-- THE SECOND FORM's CARD OF 'waywiserlaw03.NumLaws'. -/
def numLawsUptoCard : Claim7 := { stood := { row := numLawsUptoRow, standIns := [], harness := (true, "a8ed7bf42d3c4cbb9d5063d916b5365f65ad7af4bda6623610e6891ab82a351a"), looks := false }, kinds := [], alts := [], laidByText := true, laidKinds := [.data, .data, .data, .data, .pinned], laidTests := true, laidLooks := .later }
def NumLawsUptoCardSaid : Prop := Claim7.holds Tryd.pinned (.plain (OpenSpec.upto numLawsSpec)) numLawsUptoCard
end Rows
end Go.Proofs.YtlffebmhknilhaaDoor
