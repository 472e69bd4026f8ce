/-
  DERIVED. GIVEN WITH THE SEED: THE CARDS: each row of YtfmadoeadmclbaaGreatDoorRows.lean that lists a variable, with what it lists TIED to the program's text (the seventh form; the later family's looks); each row that meets fmt, with fmt's text TOLD by the authors' own Lean function (tested against real Go, not proved from fmt's source: count such statements apart). THE CARD IS WHAT COUNTS. Prove the row's statement (the work); the ties are given (YtfmadoeadmclbaaGreatDoorTie.lean); close each card by the builder's one call (the guide's Derived/Test/ToyasCard.lean, 'card_holds'). Laid BY PROGRAM, IN A SANDBOX (cutbox-door.mjs). By AI agents, Wed Nov 11 2026. No macro, syntax, notation, axiom, sorry.
-/
import Derived.Test.YtfmadoeadmclbaaGreatDoorRows
import GoSem.ClaimSeven
namespace Go.Proofs.YtfmadoeadmclbaaGreatDoor
namespace Rows

/-- THE TIED CARD OF 'waywiserlaw04.JsonParses'. -/
def jsonParsesCard : Claim7 := { stood := { row := jsonParsesRow, standIns := [], harness := (true, "bbadeff23c19030a1e6fc2cc6e62111204229f79a155b5cd0dfc142c7b32aab7"), looks := true }, kinds := [], alts := [], laidByText := true, laidKinds := [.data, .data, .data, .data, .pinned], laidTests := true, laidLooks := .later }
def JsonParsesCardSaid : Prop := Claim7.holds Tryz.pinned (.plain (OpenSpec.ofChange jsonParsesSpec)) jsonParsesCard

/-- THE TIED CARD OF 'waywiserlaw04.JsonBack'. -/
def jsonBackCard : Claim7 := { stood := { row := jsonBackRow, standIns := [], harness := (true, "bbadeff23c19030a1e6fc2cc6e62111204229f79a155b5cd0dfc142c7b32aab7"), looks := true }, kinds := [], alts := [], laidByText := true, laidKinds := [.data, .data, .data, .data, .pinned], laidTests := true, laidLooks := .later }
def JsonBackCardSaid : Prop := Claim7.holds Tryz.pinned (.plain (OpenSpec.ofChange jsonBackSpec)) jsonBackCard

/-- THE TIED CARD OF 'waywiserlaw04.JsonBlanks'. -/
def jsonBlanksCard : Claim7 := { stood := { row := jsonBlanksRow, standIns := [], harness := (true, "bbadeff23c19030a1e6fc2cc6e62111204229f79a155b5cd0dfc142c7b32aab7"), looks := true }, kinds := [], alts := [], laidByText := true, laidKinds := [.data, .data, .data, .data, .pinned], laidTests := true, laidLooks := .later }
def JsonBlanksCardSaid : Prop := Claim7.holds Tryz.pinned (.plain (OpenSpec.ofChange jsonBlanksSpec)) jsonBlanksCard

/-- THE TIED CARD OF 'waywiserlaw04.JsonCompares'. -/
def jsonComparesCard : Claim7 := { stood := { row := jsonComparesRow, standIns := [], harness := (true, "bbadeff23c19030a1e6fc2cc6e62111204229f79a155b5cd0dfc142c7b32aab7"), looks := true }, kinds := [], alts := [], laidByText := true, laidKinds := [.data, .data, .data, .data, .pinned], laidTests := true, laidLooks := .later }
def JsonComparesCardSaid : Prop := Claim7.holds Tryz.pinned (.plain (OpenSpec.ofChange jsonComparesSpec)) jsonComparesCard

/-- THE TIED CARD OF 'waywiserlaw04.JsonPrints'. -/
def jsonPrintsCard : Claim7 := { stood := { row := jsonPrintsRow, standIns := [], harness := (true, "bbadeff23c19030a1e6fc2cc6e62111204229f79a155b5cd0dfc142c7b32aab7"), looks := true }, kinds := [], alts := [], laidByText := true, laidKinds := [.data, .data, .data, .data, .pinned], laidTests := true, laidLooks := .later }
def JsonPrintsCardSaid : Prop := Claim7.holds Tryz.pinned (.plain (OpenSpec.ofChange jsonPrintsSpec)) jsonPrintsCard

/-- THE SECOND FORM's CARD OF 'waywiserlaw04.JsonParses'. -/
def jsonParsesUptoCard : Claim7 := { stood := { row := jsonParsesUptoRow, standIns := [], harness := (true, "bbadeff23c19030a1e6fc2cc6e62111204229f79a155b5cd0dfc142c7b32aab7"), looks := true }, kinds := [], alts := [], laidByText := true, laidKinds := [.data, .data, .data, .data, .pinned], laidTests := true, laidLooks := .later }
def JsonParsesUptoCardSaid : Prop := Claim7.holds Tryz.pinned (.plain (OpenSpec.upto jsonParsesSpec)) jsonParsesUptoCard

/-- THE SECOND FORM's CARD OF 'waywiserlaw04.JsonBack'. -/
def jsonBackUptoCard : Claim7 := { stood := { row := jsonBackUptoRow, standIns := [], harness := (true, "bbadeff23c19030a1e6fc2cc6e62111204229f79a155b5cd0dfc142c7b32aab7"), looks := true }, kinds := [], alts := [], laidByText := true, laidKinds := [.data, .data, .data, .data, .pinned], laidTests := true, laidLooks := .later }
def JsonBackUptoCardSaid : Prop := Claim7.holds Tryz.pinned (.plain (OpenSpec.upto jsonBackSpec)) jsonBackUptoCard

/-- THE SECOND FORM's CARD OF 'waywiserlaw04.JsonBlanks'. -/
def jsonBlanksUptoCard : Claim7 := { stood := { row := jsonBlanksUptoRow, standIns := [], harness := (true, "bbadeff23c19030a1e6fc2cc6e62111204229f79a155b5cd0dfc142c7b32aab7"), looks := true }, kinds := [], alts := [], laidByText := true, laidKinds := [.data, .data, .data, .data, .pinned], laidTests := true, laidLooks := .later }
def JsonBlanksUptoCardSaid : Prop := Claim7.holds Tryz.pinned (.plain (OpenSpec.upto jsonBlanksSpec)) jsonBlanksUptoCard

/-- THE SECOND FORM's CARD OF 'waywiserlaw04.JsonCompares'. -/
def jsonComparesUptoCard : Claim7 := { stood := { row := jsonComparesUptoRow, standIns := [], harness := (true, "bbadeff23c19030a1e6fc2cc6e62111204229f79a155b5cd0dfc142c7b32aab7"), looks := true }, kinds := [], alts := [], laidByText := true, laidKinds := [.data, .data, .data, .data, .pinned], laidTests := true, laidLooks := .later }
def JsonComparesUptoCardSaid : Prop := Claim7.holds Tryz.pinned (.plain (OpenSpec.upto jsonComparesSpec)) jsonComparesUptoCard

/-- THE SECOND FORM's CARD OF 'waywiserlaw04.JsonPrints'. -/
def jsonPrintsUptoCard : Claim7 := { stood := { row := jsonPrintsUptoRow, standIns := [], harness := (true, "bbadeff23c19030a1e6fc2cc6e62111204229f79a155b5cd0dfc142c7b32aab7"), looks := true }, kinds := [], alts := [], laidByText := true, laidKinds := [.data, .data, .data, .data, .pinned], laidTests := true, laidLooks := .later }
def JsonPrintsUptoCardSaid : Prop := Claim7.holds Tryz.pinned (.plain (OpenSpec.upto jsonPrintsSpec)) jsonPrintsUptoCard
end Rows
end Go.Proofs.YtfmadoeadmclbaaGreatDoor
