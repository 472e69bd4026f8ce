/-
  DERIVED. GIVEN WITH THE SEED: THE CARDS: each row of YtgollffmdpejiaaGreatDoorRows.lean that lists a variable, with what it lists TIED to the program's text (the seventh form; the later family's looks); each row that meets fmt, with fmt's text TOLD by the authors' own Lean function (tested against real Go, not proved from fmt's source: count such statements apart). THE CARD IS WHAT COUNTS. Prove the row's statement (the work); the ties are given (YtgollffmdpejiaaGreatDoorTie.lean); close each card by the builder's one call (the guide's Derived/Test/ToyasCard.lean, 'card_holds'). Laid BY PROGRAM, IN A SANDBOX (cutbox-door.mjs). By AI agents, Wed Nov 11 2026. No macro, syntax, notation, axiom, sorry.
-/
import Derived.Test.YtgollffmdpejiaaGreatDoorRows
import GoSem.ClaimSeven
namespace Go.Proofs.YtgollffmdpejiaaGreatDoor
namespace Rows

/-- THE TIED CARD OF 'waywiserlaw05.OrderReads'. -/
def orderReadsCard : Claim7 := { stood := { row := orderReadsRow, standIns := [], harness := (true, "9c43a3d845759053db060ab36187c75387087ae72cc8c1bc05415b6da2906bf1"), looks := true }, kinds := [], alts := [], laidByText := true, laidKinds := [.data, .data, .data, .data, .pinned], laidTests := true, laidLooks := .later }
def OrderReadsCardSaid : Prop := Claim7.holds Tryz.pinned (.plain (OpenSpec.ofChange orderReadsSpec)) orderReadsCard

/-- THE TIED CARD OF 'waywiserlaw21.QueryMatches'. -/
def queryMatchesCard : Claim7 := { stood := { row := queryMatchesRow, standIns := [], harness := (true, "9c43a3d845759053db060ab36187c75387087ae72cc8c1bc05415b6da2906bf1"), looks := true }, kinds := [], alts := [], laidByText := true, laidKinds := [.data, .data, .data, .data, .listed, .data, .pinned], laidTests := true, laidLooks := .later }
def QueryMatchesCardSaid : Prop := Claim7.holds Tryz.pinned (.plain (OpenSpec.ofChange queryMatchesSpec)) queryMatchesCard

/-- THE TIED CARD OF 'waywiserlaw21.QueryTurns'. -/
def queryTurnsCard : Claim7 := { stood := { row := queryTurnsRow, standIns := [], harness := (true, "9c43a3d845759053db060ab36187c75387087ae72cc8c1bc05415b6da2906bf1"), looks := true }, kinds := [], alts := [], laidByText := true, laidKinds := [.data, .data, .data, .data, .listed, .data, .pinned], laidTests := true, laidLooks := .later }
def QueryTurnsCardSaid : Prop := Claim7.holds Tryz.pinned (.plain (OpenSpec.ofChange queryTurnsSpec)) queryTurnsCard

/-- THE TIED CARD OF 'waywiserlaw21.QueryConditions'. -/
def queryConditionsCard : Claim7 := { stood := { row := queryConditionsRow, standIns := [], harness := (true, "9c43a3d845759053db060ab36187c75387087ae72cc8c1bc05415b6da2906bf1"), looks := true }, kinds := [], alts := [], laidByText := true, laidKinds := [.data, .data, .data, .data, .listed, .data, .pinned], laidTests := true, laidLooks := .later }
def QueryConditionsCardSaid : Prop := Claim7.holds Tryz.pinned (.plain (OpenSpec.ofChange queryConditionsSpec)) queryConditionsCard

/-- THE SECOND FORM's CARD OF 'waywiserlaw05.OrderReads'. -/
def orderReadsUptoCard : Claim7 := { stood := { row := orderReadsUptoRow, standIns := [], harness := (true, "9c43a3d845759053db060ab36187c75387087ae72cc8c1bc05415b6da2906bf1"), looks := true }, kinds := [], alts := [], laidByText := true, laidKinds := [.data, .data, .data, .data, .pinned], laidTests := true, laidLooks := .later }
def OrderReadsUptoCardSaid : Prop := Claim7.holds Tryz.pinned (.plain (OpenSpec.upto orderReadsSpec)) orderReadsUptoCard

/-- THE SECOND FORM's CARD OF 'waywiserlaw21.QueryMatches'. -/
def queryMatchesUptoCard : Claim7 := { stood := { row := queryMatchesUptoRow, standIns := [], harness := (true, "9c43a3d845759053db060ab36187c75387087ae72cc8c1bc05415b6da2906bf1"), looks := true }, kinds := [], alts := [], laidByText := true, laidKinds := [.data, .data, .data, .data, .listed, .data, .pinned], laidTests := true, laidLooks := .later }
def QueryMatchesUptoCardSaid : Prop := Claim7.holds Tryz.pinned (.plain (OpenSpec.upto queryMatchesSpec)) queryMatchesUptoCard

/-- THE SECOND FORM's CARD OF 'waywiserlaw21.QueryTurns'. -/
def queryTurnsUptoCard : Claim7 := { stood := { row := queryTurnsUptoRow, standIns := [], harness := (true, "9c43a3d845759053db060ab36187c75387087ae72cc8c1bc05415b6da2906bf1"), looks := true }, kinds := [], alts := [], laidByText := true, laidKinds := [.data, .data, .data, .data, .listed, .data, .pinned], laidTests := true, laidLooks := .later }
def QueryTurnsUptoCardSaid : Prop := Claim7.holds Tryz.pinned (.plain (OpenSpec.upto queryTurnsSpec)) queryTurnsUptoCard

/-- THE SECOND FORM's CARD OF 'waywiserlaw21.QueryConditions'. -/
def queryConditionsUptoCard : Claim7 := { stood := { row := queryConditionsUptoRow, standIns := [], harness := (true, "9c43a3d845759053db060ab36187c75387087ae72cc8c1bc05415b6da2906bf1"), looks := true }, kinds := [], alts := [], laidByText := true, laidKinds := [.data, .data, .data, .data, .listed, .data, .pinned], laidTests := true, laidLooks := .later }
def QueryConditionsUptoCardSaid : Prop := Claim7.holds Tryz.pinned (.plain (OpenSpec.upto queryConditionsSpec)) queryConditionsUptoCard
end Rows
end Go.Proofs.YtgollffmdpejiaaGreatDoor
