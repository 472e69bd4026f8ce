/-
  DERIVED. GIVEN WITH THE SEED: THE CARDS: each row of YthifckfpjmhmjaaDoorRows.lean that lists a variable, with what it lists TIED to the program's text (the seventh form; the later family's looks); each row that meets fmt, with fmt's text TOLD by the authors' own Lean function (tested against real Go, not proved from fmt's source: count such statements apart). THE CARD IS WHAT COUNTS. Prove the row's statement (the work); the ties are given (YthifckfpjmhmjaaDoorTie.lean); close each card by the builder's one call (the guide's Derived/Test/ToyasCard.lean, 'card_holds'). Laid BY PROGRAM, IN A SANDBOX (cutbox-door.mjs). By AI agents, Wed Nov 11 2026. No macro, syntax, notation, axiom, sorry.
-/
import Derived.Test.YthifckfpjmhmjaaDoorRows
import GoSem.ClaimSeven
namespace Go.Proofs.YthifckfpjmhmjaaDoor
namespace Rows

/-- THE TIED CARD OF 'waywiserlaw05.OrderCompares'. -/
def orderComparesCard : Claim7 := { stood := { row := orderComparesRow, standIns := [], harness := (true, "fcd78fafd49c375a527718d7fe75a8c51bb1ddcf588160a292f63c45f1d2c89d"), looks := true }, kinds := [], alts := [], laidByText := true, laidKinds := [.data, .data, .data, .data, .pinned], laidTests := true, laidLooks := .later }
def OrderComparesCardSaid : Prop := Claim7.holds Tryd.pinned (.plain (OpenSpec.ofChange orderComparesSpec)) orderComparesCard

/-- THE TIED CARD OF 'waywiserlaw05.OrderKeys'. -/
def orderKeysCard : Claim7 := { stood := { row := orderKeysRow, standIns := [], harness := (true, "fcd78fafd49c375a527718d7fe75a8c51bb1ddcf588160a292f63c45f1d2c89d"), looks := true }, kinds := [], alts := [], laidByText := true, laidKinds := [.data, .data, .data, .data, .pinned], laidTests := true, laidLooks := .later }
def OrderKeysCardSaid : Prop := Claim7.holds Tryd.pinned (.plain (OpenSpec.ofChange orderKeysSpec)) orderKeysCard

/-- THE TIED CARD OF 'waywiserlaw05.OrderChain'. -/
def orderChainCard : Claim7 := { stood := { row := orderChainRow, standIns := [], harness := (true, "fcd78fafd49c375a527718d7fe75a8c51bb1ddcf588160a292f63c45f1d2c89d"), looks := true }, kinds := [], alts := [], laidByText := true, laidKinds := [.data, .data, .data, .data, .pinned], laidTests := true, laidLooks := .later }
def OrderChainCardSaid : Prop := Claim7.holds Tryd.pinned (.plain (OpenSpec.ofChange orderChainSpec)) orderChainCard

/-- THE TIED CARD OF 'waywiserlaw05.OrderPrefix'. -/
def orderPrefixCard : Claim7 := { stood := { row := orderPrefixRow, standIns := [], harness := (true, "fcd78fafd49c375a527718d7fe75a8c51bb1ddcf588160a292f63c45f1d2c89d"), looks := true }, kinds := [], alts := [], laidByText := true, laidKinds := [.data, .data, .data, .data, .pinned], laidTests := true, laidLooks := .later }
def OrderPrefixCardSaid : Prop := Claim7.holds Tryd.pinned (.plain (OpenSpec.ofChange orderPrefixSpec)) orderPrefixCard

/-- THE TIED CARD OF 'waywiserlaw05.OrderLists'. -/
def orderListsCard : Claim7 := { stood := { row := orderListsRow, standIns := [], harness := (true, "fcd78fafd49c375a527718d7fe75a8c51bb1ddcf588160a292f63c45f1d2c89d"), looks := true }, kinds := [], alts := [], laidByText := true, laidKinds := [.data, .data, .data, .data, .pinned], laidTests := true, laidLooks := .later }
def OrderListsCardSaid : Prop := Claim7.holds Tryd.pinned (.plain (OpenSpec.ofChange orderListsSpec)) orderListsCard

/-- THE TIED CARD OF 'waywiserlaw05.OrderHolds'. -/
def orderHoldsCard : Claim7 := { stood := { row := orderHoldsRow, standIns := [], harness := (true, "fcd78fafd49c375a527718d7fe75a8c51bb1ddcf588160a292f63c45f1d2c89d"), looks := true }, kinds := [], alts := [], laidByText := true, laidKinds := [.data, .data, .data, .data, .pinned], laidTests := true, laidLooks := .later }
def OrderHoldsCardSaid : Prop := Claim7.holds Tryd.pinned (.plain (OpenSpec.ofChange orderHoldsSpec)) orderHoldsCard

/-- THE TIED CARD OF 'waywiserlaw05.OrderBack'. -/
def orderBackCard : Claim7 := { stood := { row := orderBackRow, standIns := [], harness := (true, "fcd78fafd49c375a527718d7fe75a8c51bb1ddcf588160a292f63c45f1d2c89d"), looks := true }, kinds := [], alts := [], laidByText := true, laidKinds := [.data, .data, .data, .data, .pinned], laidTests := true, laidLooks := .later }
def OrderBackCardSaid : Prop := Claim7.holds Tryd.pinned (.plain (OpenSpec.ofChange orderBackSpec)) orderBackCard

/-- THE SECOND FORM's CARD OF 'waywiserlaw05.OrderCompares'. -/
def orderComparesUptoCard : Claim7 := { stood := { row := orderComparesUptoRow, standIns := [], harness := (true, "fcd78fafd49c375a527718d7fe75a8c51bb1ddcf588160a292f63c45f1d2c89d"), looks := true }, kinds := [], alts := [], laidByText := true, laidKinds := [.data, .data, .data, .data, .pinned], laidTests := true, laidLooks := .later }
def OrderComparesUptoCardSaid : Prop := Claim7.holds Tryd.pinned (.plain (OpenSpec.upto orderComparesSpec)) orderComparesUptoCard

/-- THE SECOND FORM's CARD OF 'waywiserlaw05.OrderKeys'. -/
def orderKeysUptoCard : Claim7 := { stood := { row := orderKeysUptoRow, standIns := [], harness := (true, "fcd78fafd49c375a527718d7fe75a8c51bb1ddcf588160a292f63c45f1d2c89d"), looks := true }, kinds := [], alts := [], laidByText := true, laidKinds := [.data, .data, .data, .data, .pinned], laidTests := true, laidLooks := .later }
def OrderKeysUptoCardSaid : Prop := Claim7.holds Tryd.pinned (.plain (OpenSpec.upto orderKeysSpec)) orderKeysUptoCard

/-- THE SECOND FORM's CARD OF 'waywiserlaw05.OrderChain'. -/
def orderChainUptoCard : Claim7 := { stood := { row := orderChainUptoRow, standIns := [], harness := (true, "fcd78fafd49c375a527718d7fe75a8c51bb1ddcf588160a292f63c45f1d2c89d"), looks := true }, kinds := [], alts := [], laidByText := true, laidKinds := [.data, .data, .data, .data, .pinned], laidTests := true, laidLooks := .later }
def OrderChainUptoCardSaid : Prop := Claim7.holds Tryd.pinned (.plain (OpenSpec.upto orderChainSpec)) orderChainUptoCard

/-- THE SECOND FORM's CARD OF 'waywiserlaw05.OrderPrefix'. -/
def orderPrefixUptoCard : Claim7 := { stood := { row := orderPrefixUptoRow, standIns := [], harness := (true, "fcd78fafd49c375a527718d7fe75a8c51bb1ddcf588160a292f63c45f1d2c89d"), looks := true }, kinds := [], alts := [], laidByText := true, laidKinds := [.data, .data, .data, .data, .pinned], laidTests := true, laidLooks := .later }
def OrderPrefixUptoCardSaid : Prop := Claim7.holds Tryd.pinned (.plain (OpenSpec.upto orderPrefixSpec)) orderPrefixUptoCard

/-- THE SECOND FORM's CARD OF 'waywiserlaw05.OrderLists'. -/
def orderListsUptoCard : Claim7 := { stood := { row := orderListsUptoRow, standIns := [], harness := (true, "fcd78fafd49c375a527718d7fe75a8c51bb1ddcf588160a292f63c45f1d2c89d"), looks := true }, kinds := [], alts := [], laidByText := true, laidKinds := [.data, .data, .data, .data, .pinned], laidTests := true, laidLooks := .later }
def OrderListsUptoCardSaid : Prop := Claim7.holds Tryd.pinned (.plain (OpenSpec.upto orderListsSpec)) orderListsUptoCard

/-- THE SECOND FORM's CARD OF 'waywiserlaw05.OrderHolds'. -/
def orderHoldsUptoCard : Claim7 := { stood := { row := orderHoldsUptoRow, standIns := [], harness := (true, "fcd78fafd49c375a527718d7fe75a8c51bb1ddcf588160a292f63c45f1d2c89d"), looks := true }, kinds := [], alts := [], laidByText := true, laidKinds := [.data, .data, .data, .data, .pinned], laidTests := true, laidLooks := .later }
def OrderHoldsUptoCardSaid : Prop := Claim7.holds Tryd.pinned (.plain (OpenSpec.upto orderHoldsSpec)) orderHoldsUptoCard

/-- THE SECOND FORM's CARD OF 'waywiserlaw05.OrderBack'. -/
def orderBackUptoCard : Claim7 := { stood := { row := orderBackUptoRow, standIns := [], harness := (true, "fcd78fafd49c375a527718d7fe75a8c51bb1ddcf588160a292f63c45f1d2c89d"), looks := true }, kinds := [], alts := [], laidByText := true, laidKinds := [.data, .data, .data, .data, .pinned], laidTests := true, laidLooks := .later }
def OrderBackUptoCardSaid : Prop := Claim7.holds Tryd.pinned (.plain (OpenSpec.upto orderBackSpec)) orderBackUptoCard
end Rows
end Go.Proofs.YthifckfpjmhmjaaDoor
