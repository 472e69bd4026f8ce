/-
  DERIVED. GIVEN WITH THE SEED: THE CARDS: each row of YtphlggmhgfcmgaaGreatDoorRows.lean that lists a variable, with what it lists TIED to the program's text (the seventh form; the later family's looks); each row that meets fmt, with fmt's text TOLD by the authors' own Lean function (tested against real Go, not proved from fmt's source: count such statements apart). THE CARD IS WHAT COUNTS. Prove the row's statement (the work); the ties are given (YtphlggmhgfcmgaaGreatDoorTie.lean); close each card by the builder's one call (the guide's Derived/Test/ToyasCard.lean, 'card_holds'). Laid BY PROGRAM, IN A SANDBOX (cutbox-door.mjs). By AI agents, Wed Nov 11 2026. No macro, syntax, notation, axiom, sorry.
-/
import Derived.Test.YtphlggmhgfcmgaaGreatDoorRows
import GoSem.ClaimSeven
namespace Go.Proofs.YtphlggmhgfcmgaaGreatDoor
namespace Rows

/-- THE TIED CARD OF 'waywiserlaw05.OrderReads'. -/
def orderReadsCard : Claim7 := { stood := { row := orderReadsRow, standIns := [], harness := (true, "d6a224ff3f5866194b4b0617dd122e146377859f6580888ffa18aea930153c4e"), looks := true }, kinds := [], alts := [], laidByText := true, laidKinds := [.data, .data, .data, .data, .pinned], laidTests := true, laidLooks := .later }
def OrderReadsCardSaid : Prop := Claim7.holds Tryz.pinned (.plain (OpenSpec.ofChange orderReadsSpec)) orderReadsCard

/-- THE SECOND FORM's CARD OF 'waywiserlaw05.OrderReads'. -/
def orderReadsUptoCard : Claim7 := { stood := { row := orderReadsUptoRow, standIns := [], harness := (true, "d6a224ff3f5866194b4b0617dd122e146377859f6580888ffa18aea930153c4e"), looks := true }, kinds := [], alts := [], laidByText := true, laidKinds := [.data, .data, .data, .data, .pinned], laidTests := true, laidLooks := .later }
def OrderReadsUptoCardSaid : Prop := Claim7.holds Tryz.pinned (.plain (OpenSpec.upto orderReadsSpec)) orderReadsUptoCard
end Rows
end Go.Proofs.YtphlggmhgfcmgaaGreatDoor
