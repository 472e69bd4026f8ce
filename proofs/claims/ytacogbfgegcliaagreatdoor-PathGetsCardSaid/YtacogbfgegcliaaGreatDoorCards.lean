/-
  DERIVED. GIVEN WITH THE SEED: THE CARDS: each row of YtacogbfgegcliaaGreatDoorRows.lean that lists a variable, with what it lists TIED to the program's text (the seventh form; the later family's looks); each row that meets fmt, with fmt's text TOLD by the authors' own Lean function (tested against real Go, not proved from fmt's source: count such statements apart). THE CARD IS WHAT COUNTS. Prove the row's statement (the work); the ties are given (YtacogbfgegcliaaGreatDoorTie.lean); close each card by the builder's one call (the guide's Derived/Test/ToyasCard.lean, 'card_holds'). Laid BY PROGRAM, IN A SANDBOX (cutbox-door.mjs). By AI agents, Wed Nov 11 2026. No macro, syntax, notation, axiom, sorry.
-/
import Derived.Test.YtacogbfgegcliaaGreatDoorRows
import GoSem.ClaimSeven
namespace Go.Proofs.YtacogbfgegcliaaGreatDoor
namespace Rows

/-- THE TIED CARD OF 'waywiserlaw04.JsonParses'. -/
def jsonParsesCard : Claim7 := { stood := { row := jsonParsesRow, standIns := [], harness := (true, "fcb50f2f38ed10ae0d4c0839137a96ae2c0b7959ac3a1226eee185821215c18e"), looks := true }, kinds := [], alts := [], laidByText := true, laidKinds := [.data, .data, .data, .data, .pinned], laidTests := true, laidLooks := .later }
def JsonParsesCardSaid : Prop := Claim7.holds Tryz.pinned (.plain (OpenSpec.ofChange jsonParsesSpec)) jsonParsesCard

/-- THE TIED CARD OF 'waywiserlaw04.JsonBack'. -/
def jsonBackCard : Claim7 := { stood := { row := jsonBackRow, standIns := [], harness := (true, "fcb50f2f38ed10ae0d4c0839137a96ae2c0b7959ac3a1226eee185821215c18e"), looks := true }, kinds := [], alts := [], laidByText := true, laidKinds := [.data, .data, .data, .data, .pinned], laidTests := true, laidLooks := .later }
def JsonBackCardSaid : Prop := Claim7.holds Tryz.pinned (.plain (OpenSpec.ofChange jsonBackSpec)) jsonBackCard

/-- THE TIED CARD OF 'waywiserlaw04.JsonBlanks'. -/
def jsonBlanksCard : Claim7 := { stood := { row := jsonBlanksRow, standIns := [], harness := (true, "fcb50f2f38ed10ae0d4c0839137a96ae2c0b7959ac3a1226eee185821215c18e"), looks := true }, kinds := [], alts := [], laidByText := true, laidKinds := [.data, .data, .data, .data, .pinned], laidTests := true, laidLooks := .later }
def JsonBlanksCardSaid : Prop := Claim7.holds Tryz.pinned (.plain (OpenSpec.ofChange jsonBlanksSpec)) jsonBlanksCard

/-- THE TIED CARD OF 'waywiserlaw04.JsonCompares'. -/
def jsonComparesCard : Claim7 := { stood := { row := jsonComparesRow, standIns := [], harness := (true, "fcb50f2f38ed10ae0d4c0839137a96ae2c0b7959ac3a1226eee185821215c18e"), looks := true }, kinds := [], alts := [], laidByText := true, laidKinds := [.data, .data, .data, .data, .pinned], laidTests := true, laidLooks := .later }
def JsonComparesCardSaid : Prop := Claim7.holds Tryz.pinned (.plain (OpenSpec.ofChange jsonComparesSpec)) jsonComparesCard

/-- THE TIED CARD OF 'waywiserlaw04.JsonPrints'. -/
def jsonPrintsCard : Claim7 := { stood := { row := jsonPrintsRow, standIns := [], harness := (true, "fcb50f2f38ed10ae0d4c0839137a96ae2c0b7959ac3a1226eee185821215c18e"), looks := true }, kinds := [], alts := [], laidByText := true, laidKinds := [.data, .data, .data, .data, .pinned], laidTests := true, laidLooks := .later }
def JsonPrintsCardSaid : Prop := Claim7.holds Tryz.pinned (.plain (OpenSpec.ofChange jsonPrintsSpec)) jsonPrintsCard

/-- THE TIED CARD OF 'waywiserlaw06.PathPuts'. -/
def pathPutsCard : Claim7 := { stood := { row := pathPutsRow, standIns := [], harness := (true, "fcb50f2f38ed10ae0d4c0839137a96ae2c0b7959ac3a1226eee185821215c18e"), looks := true }, kinds := [], alts := [], laidByText := true, laidKinds := [.data, .data, .data, .data, .sentinel, .sentinel, .pinned], laidTests := true, laidLooks := .later }
def PathPutsCardSaid : Prop := Claim7.holds Tryz.pinned (.plain (OpenSpec.ofChange pathPutsSpec)) pathPutsCard

/-- THE TIED CARD OF 'waywiserlaw06.PathDrops'. -/
def pathDropsCard : Claim7 := { stood := { row := pathDropsRow, standIns := [], harness := (true, "fcb50f2f38ed10ae0d4c0839137a96ae2c0b7959ac3a1226eee185821215c18e"), looks := true }, kinds := [], alts := [], laidByText := true, laidKinds := [.data, .data, .data, .data, .sentinel, .sentinel, .pinned], laidTests := true, laidLooks := .later }
def PathDropsCardSaid : Prop := Claim7.holds Tryz.pinned (.plain (OpenSpec.ofChange pathDropsSpec)) pathDropsCard

/-- THE TIED CARD OF 'waywiserlaw06.PathBack'. -/
def pathBackCard : Claim7 := { stood := { row := pathBackRow, standIns := [], harness := (true, "fcb50f2f38ed10ae0d4c0839137a96ae2c0b7959ac3a1226eee185821215c18e"), looks := true }, kinds := [], alts := [], laidByText := true, laidKinds := [.data, .data, .data, .data, .sentinel, .sentinel, .pinned], laidTests := true, laidLooks := .later }
def PathBackCardSaid : Prop := Claim7.holds Tryz.pinned (.plain (OpenSpec.ofChange pathBackSpec)) pathBackCard

/-- THE TIED CARD OF 'waywiserlaw06.PathSteps'. -/
def pathStepsCard : Claim7 := { stood := { row := pathStepsRow, standIns := [], harness := (true, "fcb50f2f38ed10ae0d4c0839137a96ae2c0b7959ac3a1226eee185821215c18e"), looks := true }, kinds := [], alts := [], laidByText := true, laidKinds := [.data, .data, .data, .data, .sentinel, .sentinel, .pinned], laidTests := true, laidLooks := .later }
def PathStepsCardSaid : Prop := Claim7.holds Tryz.pinned (.plain (OpenSpec.ofChange pathStepsSpec)) pathStepsCard

/-- THE TIED CARD OF 'waywiserlaw06.PathGets'. -/
def pathGetsCard : Claim7 := { stood := { row := pathGetsRow, standIns := [], harness := (true, "fcb50f2f38ed10ae0d4c0839137a96ae2c0b7959ac3a1226eee185821215c18e"), looks := true }, kinds := [], alts := [], laidByText := true, laidKinds := [.data, .data, .data, .data, .sentinel, .sentinel, .pinned], laidTests := true, laidLooks := .later }
def PathGetsCardSaid : Prop := Claim7.holds Tryz.pinned (.plain (OpenSpec.ofChange pathGetsSpec)) pathGetsCard

/-- THE TIED CARD OF 'waywiserlaw06.PathOthers'. -/
def pathOthersCard : Claim7 := { stood := { row := pathOthersRow, standIns := [], harness := (true, "fcb50f2f38ed10ae0d4c0839137a96ae2c0b7959ac3a1226eee185821215c18e"), looks := true }, kinds := [], alts := [], laidByText := true, laidKinds := [.data, .data, .data, .data, .sentinel, .sentinel, .pinned], laidTests := true, laidLooks := .later }
def PathOthersCardSaid : Prop := Claim7.holds Tryz.pinned (.plain (OpenSpec.ofChange pathOthersSpec)) pathOthersCard

/-- THE TIED CARD OF 'waywiserlaw06.PathAll'. -/
def pathAllCard : Claim7 := { stood := { row := pathAllRow, standIns := [], harness := (true, "fcb50f2f38ed10ae0d4c0839137a96ae2c0b7959ac3a1226eee185821215c18e"), looks := true }, kinds := [], alts := [], laidByText := true, laidKinds := [.data, .data, .data, .data, .sentinel, .sentinel, .pinned], laidTests := true, laidLooks := .later }
def PathAllCardSaid : Prop := Claim7.holds Tryz.pinned (.plain (OpenSpec.ofChange pathAllSpec)) pathAllCard

/-- THE SECOND FORM's CARD OF 'waywiserlaw04.JsonParses'. -/
def jsonParsesUptoCard : Claim7 := { stood := { row := jsonParsesUptoRow, standIns := [], harness := (true, "fcb50f2f38ed10ae0d4c0839137a96ae2c0b7959ac3a1226eee185821215c18e"), looks := true }, kinds := [], alts := [], laidByText := true, laidKinds := [.data, .data, .data, .data, .pinned], laidTests := true, laidLooks := .later }
def JsonParsesUptoCardSaid : Prop := Claim7.holds Tryz.pinned (.plain (OpenSpec.upto jsonParsesSpec)) jsonParsesUptoCard

/-- THE SECOND FORM's CARD OF 'waywiserlaw04.JsonBack'. -/
def jsonBackUptoCard : Claim7 := { stood := { row := jsonBackUptoRow, standIns := [], harness := (true, "fcb50f2f38ed10ae0d4c0839137a96ae2c0b7959ac3a1226eee185821215c18e"), looks := true }, kinds := [], alts := [], laidByText := true, laidKinds := [.data, .data, .data, .data, .pinned], laidTests := true, laidLooks := .later }
def JsonBackUptoCardSaid : Prop := Claim7.holds Tryz.pinned (.plain (OpenSpec.upto jsonBackSpec)) jsonBackUptoCard

/-- THE SECOND FORM's CARD OF 'waywiserlaw04.JsonBlanks'. -/
def jsonBlanksUptoCard : Claim7 := { stood := { row := jsonBlanksUptoRow, standIns := [], harness := (true, "fcb50f2f38ed10ae0d4c0839137a96ae2c0b7959ac3a1226eee185821215c18e"), looks := true }, kinds := [], alts := [], laidByText := true, laidKinds := [.data, .data, .data, .data, .pinned], laidTests := true, laidLooks := .later }
def JsonBlanksUptoCardSaid : Prop := Claim7.holds Tryz.pinned (.plain (OpenSpec.upto jsonBlanksSpec)) jsonBlanksUptoCard

/-- THE SECOND FORM's CARD OF 'waywiserlaw04.JsonCompares'. -/
def jsonComparesUptoCard : Claim7 := { stood := { row := jsonComparesUptoRow, standIns := [], harness := (true, "fcb50f2f38ed10ae0d4c0839137a96ae2c0b7959ac3a1226eee185821215c18e"), looks := true }, kinds := [], alts := [], laidByText := true, laidKinds := [.data, .data, .data, .data, .pinned], laidTests := true, laidLooks := .later }
def JsonComparesUptoCardSaid : Prop := Claim7.holds Tryz.pinned (.plain (OpenSpec.upto jsonComparesSpec)) jsonComparesUptoCard

/-- THE SECOND FORM's CARD OF 'waywiserlaw04.JsonPrints'. -/
def jsonPrintsUptoCard : Claim7 := { stood := { row := jsonPrintsUptoRow, standIns := [], harness := (true, "fcb50f2f38ed10ae0d4c0839137a96ae2c0b7959ac3a1226eee185821215c18e"), looks := true }, kinds := [], alts := [], laidByText := true, laidKinds := [.data, .data, .data, .data, .pinned], laidTests := true, laidLooks := .later }
def JsonPrintsUptoCardSaid : Prop := Claim7.holds Tryz.pinned (.plain (OpenSpec.upto jsonPrintsSpec)) jsonPrintsUptoCard

/-- THE SECOND FORM's CARD OF 'waywiserlaw06.PathPuts'. -/
def pathPutsUptoCard : Claim7 := { stood := { row := pathPutsUptoRow, standIns := [], harness := (true, "fcb50f2f38ed10ae0d4c0839137a96ae2c0b7959ac3a1226eee185821215c18e"), looks := true }, kinds := [], alts := [], laidByText := true, laidKinds := [.data, .data, .data, .data, .sentinel, .sentinel, .pinned], laidTests := true, laidLooks := .later }
def PathPutsUptoCardSaid : Prop := Claim7.holds Tryz.pinned (.plain (OpenSpec.upto pathPutsSpec)) pathPutsUptoCard

/-- THE SECOND FORM's CARD OF 'waywiserlaw06.PathDrops'. -/
def pathDropsUptoCard : Claim7 := { stood := { row := pathDropsUptoRow, standIns := [], harness := (true, "fcb50f2f38ed10ae0d4c0839137a96ae2c0b7959ac3a1226eee185821215c18e"), looks := true }, kinds := [], alts := [], laidByText := true, laidKinds := [.data, .data, .data, .data, .sentinel, .sentinel, .pinned], laidTests := true, laidLooks := .later }
def PathDropsUptoCardSaid : Prop := Claim7.holds Tryz.pinned (.plain (OpenSpec.upto pathDropsSpec)) pathDropsUptoCard

/-- THE SECOND FORM's CARD OF 'waywiserlaw06.PathBack'. -/
def pathBackUptoCard : Claim7 := { stood := { row := pathBackUptoRow, standIns := [], harness := (true, "fcb50f2f38ed10ae0d4c0839137a96ae2c0b7959ac3a1226eee185821215c18e"), looks := true }, kinds := [], alts := [], laidByText := true, laidKinds := [.data, .data, .data, .data, .sentinel, .sentinel, .pinned], laidTests := true, laidLooks := .later }
def PathBackUptoCardSaid : Prop := Claim7.holds Tryz.pinned (.plain (OpenSpec.upto pathBackSpec)) pathBackUptoCard

/-- THE SECOND FORM's CARD OF 'waywiserlaw06.PathSteps'. -/
def pathStepsUptoCard : Claim7 := { stood := { row := pathStepsUptoRow, standIns := [], harness := (true, "fcb50f2f38ed10ae0d4c0839137a96ae2c0b7959ac3a1226eee185821215c18e"), looks := true }, kinds := [], alts := [], laidByText := true, laidKinds := [.data, .data, .data, .data, .sentinel, .sentinel, .pinned], laidTests := true, laidLooks := .later }
def PathStepsUptoCardSaid : Prop := Claim7.holds Tryz.pinned (.plain (OpenSpec.upto pathStepsSpec)) pathStepsUptoCard

/-- THE SECOND FORM's CARD OF 'waywiserlaw06.PathGets'. -/
def pathGetsUptoCard : Claim7 := { stood := { row := pathGetsUptoRow, standIns := [], harness := (true, "fcb50f2f38ed10ae0d4c0839137a96ae2c0b7959ac3a1226eee185821215c18e"), looks := true }, kinds := [], alts := [], laidByText := true, laidKinds := [.data, .data, .data, .data, .sentinel, .sentinel, .pinned], laidTests := true, laidLooks := .later }
def PathGetsUptoCardSaid : Prop := Claim7.holds Tryz.pinned (.plain (OpenSpec.upto pathGetsSpec)) pathGetsUptoCard

/-- THE SECOND FORM's CARD OF 'waywiserlaw06.PathOthers'. -/
def pathOthersUptoCard : Claim7 := { stood := { row := pathOthersUptoRow, standIns := [], harness := (true, "fcb50f2f38ed10ae0d4c0839137a96ae2c0b7959ac3a1226eee185821215c18e"), looks := true }, kinds := [], alts := [], laidByText := true, laidKinds := [.data, .data, .data, .data, .sentinel, .sentinel, .pinned], laidTests := true, laidLooks := .later }
def PathOthersUptoCardSaid : Prop := Claim7.holds Tryz.pinned (.plain (OpenSpec.upto pathOthersSpec)) pathOthersUptoCard

/-- THE SECOND FORM's CARD OF 'waywiserlaw06.PathAll'. -/
def pathAllUptoCard : Claim7 := { stood := { row := pathAllUptoRow, standIns := [], harness := (true, "fcb50f2f38ed10ae0d4c0839137a96ae2c0b7959ac3a1226eee185821215c18e"), looks := true }, kinds := [], alts := [], laidByText := true, laidKinds := [.data, .data, .data, .data, .sentinel, .sentinel, .pinned], laidTests := true, laidLooks := .later }
def PathAllUptoCardSaid : Prop := Claim7.holds Tryz.pinned (.plain (OpenSpec.upto pathAllSpec)) pathAllUptoCard
end Rows
end Go.Proofs.YtacogbfgegcliaaGreatDoor
