/-
  DERIVED. GIVEN WITH THE SEED: THE CARDS: each row of YtfanccddokckcaaGreatDoorRows.lean that lists a variable, with what it lists TIED to the program's text (the seventh form; the later family's looks); each row that meets fmt, with fmt's text TOLD by the authors' own Lean function (tested against real Go, not proved from fmt's source: count such statements apart). THE CARD IS WHAT COUNTS. Prove the row's statement (the work); the ties are given (YtfanccddokckcaaGreatDoorTie.lean); close each card by the builder's one call (the guide's Derived/Test/ToyasCard.lean, 'card_holds'). Laid BY PROGRAM, IN A SANDBOX (cutbox-door.mjs). By AI agents, Wed Nov 11 2026. No macro, syntax, notation, axiom, sorry.
-/
import Derived.Test.YtfanccddokckcaaGreatDoorRows
import GoSem.ClaimSeven
namespace Go.Proofs.YtfanccddokckcaaGreatDoor
namespace Rows

/-- THE TIED CARD OF 'waywiserlaw09.ShapeReads'. -/
def shapeReadsCard : Claim7 := { stood := { row := shapeReadsRow, standIns := [], harness := (true, "285be0173eb6d87d29fa64bab48b4c0b0bd8a249212ed919e0d5c079e4f0fe89"), looks := true }, kinds := [], alts := [], laidByText := true, laidKinds := [.data, .data, .data, .data, .pinned], laidTests := true, laidLooks := .later }
def ShapeReadsCardSaid : Prop := Claim7.holds Tryz.pinned (.plain (OpenSpec.ofChange shapeReadsSpec)) shapeReadsCard

/-- THE TIED CARD OF 'waywiserlaw09.ShapeBack'. -/
def shapeBackCard : Claim7 := { stood := { row := shapeBackRow, standIns := [], harness := (true, "285be0173eb6d87d29fa64bab48b4c0b0bd8a249212ed919e0d5c079e4f0fe89"), looks := true }, kinds := [], alts := [], laidByText := true, laidKinds := [.data, .data, .data, .data, .pinned], laidTests := true, laidLooks := .later }
def ShapeBackCardSaid : Prop := Claim7.holds Tryz.pinned (.plain (OpenSpec.ofChange shapeBackSpec)) shapeBackCard

/-- THE TIED CARD OF 'waywiserlaw09.ShapeMeets'. -/
def shapeMeetsCard : Claim7 := { stood := { row := shapeMeetsRow, standIns := [], harness := (true, "285be0173eb6d87d29fa64bab48b4c0b0bd8a249212ed919e0d5c079e4f0fe89"), looks := true }, kinds := [], alts := [], laidByText := true, laidKinds := [.data, .data, .data, .data, .pinned], laidTests := true, laidLooks := .later }
def ShapeMeetsCardSaid : Prop := Claim7.holds Tryz.pinned (.plain (OpenSpec.ofChange shapeMeetsSpec)) shapeMeetsCard

/-- THE TIED CARD OF 'waywiserlaw09.ShapeRects'. -/
def shapeRectsCard : Claim7 := { stood := { row := shapeRectsRow, standIns := [], harness := (true, "285be0173eb6d87d29fa64bab48b4c0b0bd8a249212ed919e0d5c079e4f0fe89"), looks := true }, kinds := [], alts := [], laidByText := true, laidKinds := [.data, .data, .data, .data, .pinned], laidTests := true, laidLooks := .later }
def ShapeRectsCardSaid : Prop := Claim7.holds Tryz.pinned (.plain (OpenSpec.ofChange shapeRectsSpec)) shapeRectsCard

/-- THE TIED CARD OF 'waywiserlaw09.ShapeBoxes'. -/
def shapeBoxesCard : Claim7 := { stood := { row := shapeBoxesRow, standIns := [], harness := (true, "285be0173eb6d87d29fa64bab48b4c0b0bd8a249212ed919e0d5c079e4f0fe89"), looks := true }, kinds := [], alts := [], laidByText := true, laidKinds := [.data, .data, .data, .data, .pinned], laidTests := true, laidLooks := .later }
def ShapeBoxesCardSaid : Prop := Claim7.holds Tryz.pinned (.plain (OpenSpec.ofChange shapeBoxesSpec)) shapeBoxesCard

/-- THE TIED CARD OF 'waywiserlaw09.ShapeTells'. -/
def shapeTellsCard : Claim7 := { stood := { row := shapeTellsRow, standIns := [], harness := (true, "285be0173eb6d87d29fa64bab48b4c0b0bd8a249212ed919e0d5c079e4f0fe89"), looks := true }, kinds := [], alts := [], laidByText := true, laidKinds := [.data, .data, .data, .data, .pinned], laidTests := true, laidLooks := .later }
def ShapeTellsCardSaid : Prop := Claim7.holds Tryz.pinned (.plain (OpenSpec.ofChange shapeTellsSpec)) shapeTellsCard

/-- THE SECOND FORM's CARD OF 'waywiserlaw09.ShapeReads'. -/
def shapeReadsUptoCard : Claim7 := { stood := { row := shapeReadsUptoRow, standIns := [], harness := (true, "285be0173eb6d87d29fa64bab48b4c0b0bd8a249212ed919e0d5c079e4f0fe89"), looks := true }, kinds := [], alts := [], laidByText := true, laidKinds := [.data, .data, .data, .data, .pinned], laidTests := true, laidLooks := .later }
def ShapeReadsUptoCardSaid : Prop := Claim7.holds Tryz.pinned (.plain (OpenSpec.upto shapeReadsSpec)) shapeReadsUptoCard

/-- THE SECOND FORM's CARD OF 'waywiserlaw09.ShapeBack'. -/
def shapeBackUptoCard : Claim7 := { stood := { row := shapeBackUptoRow, standIns := [], harness := (true, "285be0173eb6d87d29fa64bab48b4c0b0bd8a249212ed919e0d5c079e4f0fe89"), looks := true }, kinds := [], alts := [], laidByText := true, laidKinds := [.data, .data, .data, .data, .pinned], laidTests := true, laidLooks := .later }
def ShapeBackUptoCardSaid : Prop := Claim7.holds Tryz.pinned (.plain (OpenSpec.upto shapeBackSpec)) shapeBackUptoCard

/-- THE SECOND FORM's CARD OF 'waywiserlaw09.ShapeMeets'. -/
def shapeMeetsUptoCard : Claim7 := { stood := { row := shapeMeetsUptoRow, standIns := [], harness := (true, "285be0173eb6d87d29fa64bab48b4c0b0bd8a249212ed919e0d5c079e4f0fe89"), looks := true }, kinds := [], alts := [], laidByText := true, laidKinds := [.data, .data, .data, .data, .pinned], laidTests := true, laidLooks := .later }
def ShapeMeetsUptoCardSaid : Prop := Claim7.holds Tryz.pinned (.plain (OpenSpec.upto shapeMeetsSpec)) shapeMeetsUptoCard

/-- THE SECOND FORM's CARD OF 'waywiserlaw09.ShapeRects'. -/
def shapeRectsUptoCard : Claim7 := { stood := { row := shapeRectsUptoRow, standIns := [], harness := (true, "285be0173eb6d87d29fa64bab48b4c0b0bd8a249212ed919e0d5c079e4f0fe89"), looks := true }, kinds := [], alts := [], laidByText := true, laidKinds := [.data, .data, .data, .data, .pinned], laidTests := true, laidLooks := .later }
def ShapeRectsUptoCardSaid : Prop := Claim7.holds Tryz.pinned (.plain (OpenSpec.upto shapeRectsSpec)) shapeRectsUptoCard

/-- THE SECOND FORM's CARD OF 'waywiserlaw09.ShapeBoxes'. -/
def shapeBoxesUptoCard : Claim7 := { stood := { row := shapeBoxesUptoRow, standIns := [], harness := (true, "285be0173eb6d87d29fa64bab48b4c0b0bd8a249212ed919e0d5c079e4f0fe89"), looks := true }, kinds := [], alts := [], laidByText := true, laidKinds := [.data, .data, .data, .data, .pinned], laidTests := true, laidLooks := .later }
def ShapeBoxesUptoCardSaid : Prop := Claim7.holds Tryz.pinned (.plain (OpenSpec.upto shapeBoxesSpec)) shapeBoxesUptoCard

/-- THE SECOND FORM's CARD OF 'waywiserlaw09.ShapeTells'. -/
def shapeTellsUptoCard : Claim7 := { stood := { row := shapeTellsUptoRow, standIns := [], harness := (true, "285be0173eb6d87d29fa64bab48b4c0b0bd8a249212ed919e0d5c079e4f0fe89"), looks := true }, kinds := [], alts := [], laidByText := true, laidKinds := [.data, .data, .data, .data, .pinned], laidTests := true, laidLooks := .later }
def ShapeTellsUptoCardSaid : Prop := Claim7.holds Tryz.pinned (.plain (OpenSpec.upto shapeTellsSpec)) shapeTellsUptoCard
end Rows
end Go.Proofs.YtfanccddokckcaaGreatDoor
