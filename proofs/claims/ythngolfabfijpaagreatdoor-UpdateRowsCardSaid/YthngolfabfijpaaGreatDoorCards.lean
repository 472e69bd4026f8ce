/-
  DERIVED. GIVEN WITH THE SEED: THE CARDS: each row of YthngolfabfijpaaGreatDoorRows.lean that lists a variable, with what it lists TIED to the program's text (the seventh form; the later family's looks); each row that meets fmt, with fmt's text TOLD by the authors' own Lean function (tested against real Go, not proved from fmt's source: count such statements apart). THE CARD IS WHAT COUNTS. Prove the row's statement (the work); the ties are given (YthngolfabfijpaaGreatDoorTie.lean); close each card by the builder's one call (the guide's Derived/Test/ToyasCard.lean, 'card_holds'). Laid BY PROGRAM, IN A SANDBOX (cutbox-door.mjs). By AI agents, Wed Nov 11 2026. No macro, syntax, notation, axiom, sorry.
-/
import Derived.Test.YthngolfabfijpaaGreatDoorRows
import GoSem.ClaimSeven
namespace Go.Proofs.YthngolfabfijpaaGreatDoor
namespace Rows

/-- THE TIED CARD OF 'waywiserlaw05.OrderReads'. -/
def orderReadsCard : Claim7 := { stood := { row := orderReadsRow, standIns := [], harness := (true, "70414454b69cf6ca230908dfa16c7296a4a4ffece261defc839888c2615bdcd2"), looks := true }, kinds := [], alts := [], laidByText := true, laidKinds := [.data, .data, .data, .data, .pinned], laidTests := true, laidLooks := .later }
def OrderReadsCardSaid : Prop := Claim7.holds Tryz.pinned (.plain (OpenSpec.ofChange orderReadsSpec)) orderReadsCard

/-- THE TIED CARD OF 'waywiserlaw22.UpdateApplies'. -/
def updateAppliesCard : Claim7 := { stood := { row := updateAppliesRow, standIns := [], harness := (true, "70414454b69cf6ca230908dfa16c7296a4a4ffece261defc839888c2615bdcd2"), looks := true }, kinds := [], alts := [], laidByText := true, laidKinds := [.data, .data, .data, .data, .sentinel, .sentinel, .pinned], laidTests := true, laidLooks := .later }
def UpdateAppliesCardSaid : Prop := Claim7.holds Tryz.pinned (.plain (OpenSpec.ofChange updateAppliesSpec)) updateAppliesCard

/-- THE TIED CARD OF 'waywiserlaw22.UpdateRows'. -/
def updateRowsCard : Claim7 := { stood := { row := updateRowsRow, standIns := [], harness := (true, "70414454b69cf6ca230908dfa16c7296a4a4ffece261defc839888c2615bdcd2"), looks := true }, kinds := [], alts := [], laidByText := true, laidKinds := [.data, .data, .data, .data, .sentinel, .sentinel, .pinned], laidTests := true, laidLooks := .later }
def UpdateRowsCardSaid : Prop := Claim7.holds Tryz.pinned (.plain (OpenSpec.ofChange updateRowsSpec)) updateRowsCard

/-- THE TIED CARD OF 'waywiserlaw22.UpdateSets'. -/
def updateSetsCard : Claim7 := { stood := { row := updateSetsRow, standIns := [], harness := (true, "70414454b69cf6ca230908dfa16c7296a4a4ffece261defc839888c2615bdcd2"), looks := true }, kinds := [], alts := [], laidByText := true, laidKinds := [.data, .data, .data, .data, .sentinel, .sentinel, .pinned], laidTests := true, laidLooks := .later }
def UpdateSetsCardSaid : Prop := Claim7.holds Tryz.pinned (.plain (OpenSpec.ofChange updateSetsSpec)) updateSetsCard

/-- THE TIED CARD OF 'waywiserlaw22.UpdateNone'. -/
def updateNoneCard : Claim7 := { stood := { row := updateNoneRow, standIns := [], harness := (true, "70414454b69cf6ca230908dfa16c7296a4a4ffece261defc839888c2615bdcd2"), looks := true }, kinds := [], alts := [], laidByText := true, laidKinds := [.data, .data, .data, .data, .sentinel, .sentinel, .pinned], laidTests := true, laidLooks := .later }
def UpdateNoneCardSaid : Prop := Claim7.holds Tryz.pinned (.plain (OpenSpec.ofChange updateNoneSpec)) updateNoneCard

/-- THE SECOND FORM's CARD OF 'waywiserlaw05.OrderReads'. -/
def orderReadsUptoCard : Claim7 := { stood := { row := orderReadsUptoRow, standIns := [], harness := (true, "70414454b69cf6ca230908dfa16c7296a4a4ffece261defc839888c2615bdcd2"), looks := true }, kinds := [], alts := [], laidByText := true, laidKinds := [.data, .data, .data, .data, .pinned], laidTests := true, laidLooks := .later }
def OrderReadsUptoCardSaid : Prop := Claim7.holds Tryz.pinned (.plain (OpenSpec.upto orderReadsSpec)) orderReadsUptoCard

/-- THE SECOND FORM's CARD OF 'waywiserlaw22.UpdateApplies'. -/
def updateAppliesUptoCard : Claim7 := { stood := { row := updateAppliesUptoRow, standIns := [], harness := (true, "70414454b69cf6ca230908dfa16c7296a4a4ffece261defc839888c2615bdcd2"), looks := true }, kinds := [], alts := [], laidByText := true, laidKinds := [.data, .data, .data, .data, .sentinel, .sentinel, .pinned], laidTests := true, laidLooks := .later }
def UpdateAppliesUptoCardSaid : Prop := Claim7.holds Tryz.pinned (.plain (OpenSpec.upto updateAppliesSpec)) updateAppliesUptoCard

/-- THE SECOND FORM's CARD OF 'waywiserlaw22.UpdateRows'. -/
def updateRowsUptoCard : Claim7 := { stood := { row := updateRowsUptoRow, standIns := [], harness := (true, "70414454b69cf6ca230908dfa16c7296a4a4ffece261defc839888c2615bdcd2"), looks := true }, kinds := [], alts := [], laidByText := true, laidKinds := [.data, .data, .data, .data, .sentinel, .sentinel, .pinned], laidTests := true, laidLooks := .later }
def UpdateRowsUptoCardSaid : Prop := Claim7.holds Tryz.pinned (.plain (OpenSpec.upto updateRowsSpec)) updateRowsUptoCard

/-- THE SECOND FORM's CARD OF 'waywiserlaw22.UpdateSets'. -/
def updateSetsUptoCard : Claim7 := { stood := { row := updateSetsUptoRow, standIns := [], harness := (true, "70414454b69cf6ca230908dfa16c7296a4a4ffece261defc839888c2615bdcd2"), looks := true }, kinds := [], alts := [], laidByText := true, laidKinds := [.data, .data, .data, .data, .sentinel, .sentinel, .pinned], laidTests := true, laidLooks := .later }
def UpdateSetsUptoCardSaid : Prop := Claim7.holds Tryz.pinned (.plain (OpenSpec.upto updateSetsSpec)) updateSetsUptoCard

/-- THE SECOND FORM's CARD OF 'waywiserlaw22.UpdateNone'. -/
def updateNoneUptoCard : Claim7 := { stood := { row := updateNoneUptoRow, standIns := [], harness := (true, "70414454b69cf6ca230908dfa16c7296a4a4ffece261defc839888c2615bdcd2"), looks := true }, kinds := [], alts := [], laidByText := true, laidKinds := [.data, .data, .data, .data, .sentinel, .sentinel, .pinned], laidTests := true, laidLooks := .later }
def UpdateNoneUptoCardSaid : Prop := Claim7.holds Tryz.pinned (.plain (OpenSpec.upto updateNoneSpec)) updateNoneUptoCard
end Rows
end Go.Proofs.YthngolfabfijpaaGreatDoor
