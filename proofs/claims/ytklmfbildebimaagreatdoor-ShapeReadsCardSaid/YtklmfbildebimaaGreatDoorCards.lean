/-
  DERIVED. GIVEN WITH THE SEED: THE CARDS: each row of YtklmfbildebimaaGreatDoorRows.lean that lists a variable, with what it lists TIED to the program's text (the seventh form; the later family's looks); each row that meets fmt, with fmt's text TOLD by the authors' own Lean function (tested against real Go, not proved from fmt's source: count such statements apart). THE CARD IS WHAT COUNTS. Prove the row's statement (the work); the ties are given (YtklmfbildebimaaGreatDoorTie.lean); close each card by the builder's one call (the guide's Derived/Test/ToyasCard.lean, 'card_holds'). Laid BY PROGRAM, IN A SANDBOX (cutbox-door.mjs). By AI agents, Wed Nov 11 2026. No macro, syntax, notation, axiom, sorry.
-/
import Derived.Test.YtklmfbildebimaaGreatDoorRows
import GoSem.ClaimSeven
namespace Go.Proofs.YtklmfbildebimaaGreatDoor
namespace Rows

/-- THE TIED CARD OF 'waywiserlaw09.ShapeReads'. -/
def shapeReadsCard : Claim7 := { stood := { row := shapeReadsRow, standIns := [], harness := (true, "7007627cb3883a3c6b15a7c079152f395e8a1701f71315cf4466f44368b8dae0"), looks := true }, kinds := [], alts := [], laidByText := true, laidKinds := [.data, .data, .data, .data, .pinned], laidTests := true, laidLooks := .later }
def ShapeReadsCardSaid : Prop := Claim7.holds Tryz.pinned (.plain (OpenSpec.ofChange shapeReadsSpec)) shapeReadsCard

/-- THE TIED CARD OF 'waywiserlaw09.ShapeBoxes'. -/
def shapeBoxesCard : Claim7 := { stood := { row := shapeBoxesRow, standIns := [], harness := (true, "7007627cb3883a3c6b15a7c079152f395e8a1701f71315cf4466f44368b8dae0"), looks := true }, kinds := [], alts := [], laidByText := true, laidKinds := [.data, .data, .data, .data, .pinned], laidTests := true, laidLooks := .later }
def ShapeBoxesCardSaid : Prop := Claim7.holds Tryz.pinned (.plain (OpenSpec.ofChange shapeBoxesSpec)) shapeBoxesCard

/-- THE SECOND FORM's CARD OF 'waywiserlaw09.ShapeReads'. -/
def shapeReadsUptoCard : Claim7 := { stood := { row := shapeReadsUptoRow, standIns := [], harness := (true, "7007627cb3883a3c6b15a7c079152f395e8a1701f71315cf4466f44368b8dae0"), looks := true }, kinds := [], alts := [], laidByText := true, laidKinds := [.data, .data, .data, .data, .pinned], laidTests := true, laidLooks := .later }
def ShapeReadsUptoCardSaid : Prop := Claim7.holds Tryz.pinned (.plain (OpenSpec.upto shapeReadsSpec)) shapeReadsUptoCard

/-- THE SECOND FORM's CARD OF 'waywiserlaw09.ShapeBoxes'. -/
def shapeBoxesUptoCard : Claim7 := { stood := { row := shapeBoxesUptoRow, standIns := [], harness := (true, "7007627cb3883a3c6b15a7c079152f395e8a1701f71315cf4466f44368b8dae0"), looks := true }, kinds := [], alts := [], laidByText := true, laidKinds := [.data, .data, .data, .data, .pinned], laidTests := true, laidLooks := .later }
def ShapeBoxesUptoCardSaid : Prop := Claim7.holds Tryz.pinned (.plain (OpenSpec.upto shapeBoxesSpec)) shapeBoxesUptoCard
end Rows
end Go.Proofs.YtklmfbildebimaaGreatDoor
