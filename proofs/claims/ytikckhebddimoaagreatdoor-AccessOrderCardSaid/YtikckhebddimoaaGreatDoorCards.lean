/-
  DERIVED. GIVEN WITH THE SEED: THE CARDS: each row of YtikckhebddimoaaGreatDoorRows.lean that lists a variable, with what it lists TIED to the program's text (the seventh form; the later family's looks); each row that meets fmt, with fmt's text TOLD by the authors' own Lean function (tested against real Go, not proved from fmt's source: count such statements apart). THE CARD IS WHAT COUNTS. Prove the row's statement (the work); the ties are given (YtikckhebddimoaaGreatDoorTie.lean); close each card by the builder's one call (the guide's Derived/Test/ToyasCard.lean, 'card_holds'). Laid BY PROGRAM, IN A SANDBOX (cutbox-door.mjs). By AI agents, Wed Nov 11 2026. No macro, syntax, notation, axiom, sorry.
-/
import Derived.Test.YtikckhebddimoaaGreatDoorRows
import GoSem.ClaimSeven
namespace Go.Proofs.YtikckhebddimoaaGreatDoor
namespace Rows

/-- THE TIED CARD OF 'quiltlaw54.AccessParse'. -/
def accessParseCard : Claim7 := { stood := { row := accessParseRow, standIns := [], harness := (true, "19cb996e17cb03363795252210eedbeb7e0412830aeb4e4f3b8d1488f488ed01"), looks := true }, kinds := [], alts := [], laidByText := true, laidKinds := [.data, .data, .data, .data, .sentinel, .sentinel, .pinned], laidTests := true, laidLooks := .later }
def AccessParseCardSaid : Prop := Claim7.holds Tryz.pinned (.plain (OpenSpec.ofChange accessParseSpec)) accessParseCard

/-- THE TIED CARD OF 'quiltlaw54.AccessFirst'. -/
def accessFirstCard : Claim7 := { stood := { row := accessFirstRow, standIns := [], harness := (true, "19cb996e17cb03363795252210eedbeb7e0412830aeb4e4f3b8d1488f488ed01"), looks := true }, kinds := [], alts := [], laidByText := true, laidKinds := [.data, .data, .data, .data, .sentinel, .sentinel, .pinned], laidTests := true, laidLooks := .later }
def AccessFirstCardSaid : Prop := Claim7.holds Tryz.pinned (.plain (OpenSpec.ofChange accessFirstSpec)) accessFirstCard

/-- THE TIED CARD OF 'quiltlaw54.AccessPaths'. -/
def accessPathsCard : Claim7 := { stood := { row := accessPathsRow, standIns := [], harness := (true, "19cb996e17cb03363795252210eedbeb7e0412830aeb4e4f3b8d1488f488ed01"), looks := true }, kinds := [], alts := [], laidByText := true, laidKinds := [.data, .data, .data, .data, .sentinel, .sentinel, .pinned], laidTests := true, laidLooks := .later }
def AccessPathsCardSaid : Prop := Claim7.holds Tryz.pinned (.plain (OpenSpec.ofChange accessPathsSpec)) accessPathsCard

/-- THE TIED CARD OF 'quiltlaw54.AccessGroups'. -/
def accessGroupsCard : Claim7 := { stood := { row := accessGroupsRow, standIns := [], harness := (true, "19cb996e17cb03363795252210eedbeb7e0412830aeb4e4f3b8d1488f488ed01"), looks := true }, kinds := [], alts := [], laidByText := true, laidKinds := [.data, .data, .data, .data, .sentinel, .sentinel, .pinned], laidTests := true, laidLooks := .later }
def AccessGroupsCardSaid : Prop := Claim7.holds Tryz.pinned (.plain (OpenSpec.ofChange accessGroupsSpec)) accessGroupsCard

/-- THE TIED CARD OF 'quiltlaw54.AccessAllowed'. -/
def accessAllowedCard : Claim7 := { stood := { row := accessAllowedRow, standIns := [], harness := (true, "19cb996e17cb03363795252210eedbeb7e0412830aeb4e4f3b8d1488f488ed01"), looks := true }, kinds := [], alts := [], laidByText := true, laidKinds := [.data, .data, .data, .data, .sentinel, .sentinel, .pinned], laidTests := true, laidLooks := .later }
def AccessAllowedCardSaid : Prop := Claim7.holds Tryz.pinned (.plain (OpenSpec.ofChange accessAllowedSpec)) accessAllowedCard

/-- THE TIED CARD OF 'quiltlaw54.AccessOrder'. -/
def accessOrderCard : Claim7 := { stood := { row := accessOrderRow, standIns := [], harness := (true, "19cb996e17cb03363795252210eedbeb7e0412830aeb4e4f3b8d1488f488ed01"), looks := true }, kinds := [], alts := [], laidByText := true, laidKinds := [.data, .data, .data, .data, .sentinel, .sentinel, .pinned], laidTests := true, laidLooks := .later }
def AccessOrderCardSaid : Prop := Claim7.holds Tryz.pinned (.plain (OpenSpec.ofChange accessOrderSpec)) accessOrderCard

/-- THE TIED CARD OF 'quiltlaw54.AccessCheck'. -/
def accessCheckCard : Claim7 := { stood := { row := accessCheckRow, standIns := [], harness := (true, "19cb996e17cb03363795252210eedbeb7e0412830aeb4e4f3b8d1488f488ed01"), looks := true }, kinds := [], alts := [], laidByText := true, laidKinds := [.data, .data, .data, .data, .sentinel, .sentinel, .pinned], laidTests := true, laidLooks := .later }
def AccessCheckCardSaid : Prop := Claim7.holds Tryz.pinned (.plain (OpenSpec.ofChange accessCheckSpec)) accessCheckCard

/-- THE TIED CARD OF 'quiltlaw54.AccessRoundTrip'. -/
def accessRoundTripCard : Claim7 := { stood := { row := accessRoundTripRow, standIns := [], harness := (true, "19cb996e17cb03363795252210eedbeb7e0412830aeb4e4f3b8d1488f488ed01"), looks := true }, kinds := [], alts := [], laidByText := true, laidKinds := [.data, .data, .data, .data, .sentinel, .sentinel, .pinned], laidTests := true, laidLooks := .later }
def AccessRoundTripCardSaid : Prop := Claim7.holds Tryz.pinned (.plain (OpenSpec.ofChange accessRoundTripSpec)) accessRoundTripCard

/-- THE SECOND FORM's CARD OF 'quiltlaw54.AccessParse'. -/
def accessParseUptoCard : Claim7 := { stood := { row := accessParseUptoRow, standIns := [], harness := (true, "19cb996e17cb03363795252210eedbeb7e0412830aeb4e4f3b8d1488f488ed01"), looks := true }, kinds := [], alts := [], laidByText := true, laidKinds := [.data, .data, .data, .data, .sentinel, .sentinel, .pinned], laidTests := true, laidLooks := .later }
def AccessParseUptoCardSaid : Prop := Claim7.holds Tryz.pinned (.plain (OpenSpec.upto accessParseSpec)) accessParseUptoCard

/-- THE SECOND FORM's CARD OF 'quiltlaw54.AccessFirst'. -/
def accessFirstUptoCard : Claim7 := { stood := { row := accessFirstUptoRow, standIns := [], harness := (true, "19cb996e17cb03363795252210eedbeb7e0412830aeb4e4f3b8d1488f488ed01"), looks := true }, kinds := [], alts := [], laidByText := true, laidKinds := [.data, .data, .data, .data, .sentinel, .sentinel, .pinned], laidTests := true, laidLooks := .later }
def AccessFirstUptoCardSaid : Prop := Claim7.holds Tryz.pinned (.plain (OpenSpec.upto accessFirstSpec)) accessFirstUptoCard

/-- THE SECOND FORM's CARD OF 'quiltlaw54.AccessPaths'. -/
def accessPathsUptoCard : Claim7 := { stood := { row := accessPathsUptoRow, standIns := [], harness := (true, "19cb996e17cb03363795252210eedbeb7e0412830aeb4e4f3b8d1488f488ed01"), looks := true }, kinds := [], alts := [], laidByText := true, laidKinds := [.data, .data, .data, .data, .sentinel, .sentinel, .pinned], laidTests := true, laidLooks := .later }
def AccessPathsUptoCardSaid : Prop := Claim7.holds Tryz.pinned (.plain (OpenSpec.upto accessPathsSpec)) accessPathsUptoCard

/-- THE SECOND FORM's CARD OF 'quiltlaw54.AccessGroups'. -/
def accessGroupsUptoCard : Claim7 := { stood := { row := accessGroupsUptoRow, standIns := [], harness := (true, "19cb996e17cb03363795252210eedbeb7e0412830aeb4e4f3b8d1488f488ed01"), looks := true }, kinds := [], alts := [], laidByText := true, laidKinds := [.data, .data, .data, .data, .sentinel, .sentinel, .pinned], laidTests := true, laidLooks := .later }
def AccessGroupsUptoCardSaid : Prop := Claim7.holds Tryz.pinned (.plain (OpenSpec.upto accessGroupsSpec)) accessGroupsUptoCard

/-- THE SECOND FORM's CARD OF 'quiltlaw54.AccessAllowed'. -/
def accessAllowedUptoCard : Claim7 := { stood := { row := accessAllowedUptoRow, standIns := [], harness := (true, "19cb996e17cb03363795252210eedbeb7e0412830aeb4e4f3b8d1488f488ed01"), looks := true }, kinds := [], alts := [], laidByText := true, laidKinds := [.data, .data, .data, .data, .sentinel, .sentinel, .pinned], laidTests := true, laidLooks := .later }
def AccessAllowedUptoCardSaid : Prop := Claim7.holds Tryz.pinned (.plain (OpenSpec.upto accessAllowedSpec)) accessAllowedUptoCard

/-- THE SECOND FORM's CARD OF 'quiltlaw54.AccessOrder'. -/
def accessOrderUptoCard : Claim7 := { stood := { row := accessOrderUptoRow, standIns := [], harness := (true, "19cb996e17cb03363795252210eedbeb7e0412830aeb4e4f3b8d1488f488ed01"), looks := true }, kinds := [], alts := [], laidByText := true, laidKinds := [.data, .data, .data, .data, .sentinel, .sentinel, .pinned], laidTests := true, laidLooks := .later }
def AccessOrderUptoCardSaid : Prop := Claim7.holds Tryz.pinned (.plain (OpenSpec.upto accessOrderSpec)) accessOrderUptoCard

/-- THE SECOND FORM's CARD OF 'quiltlaw54.AccessCheck'. -/
def accessCheckUptoCard : Claim7 := { stood := { row := accessCheckUptoRow, standIns := [], harness := (true, "19cb996e17cb03363795252210eedbeb7e0412830aeb4e4f3b8d1488f488ed01"), looks := true }, kinds := [], alts := [], laidByText := true, laidKinds := [.data, .data, .data, .data, .sentinel, .sentinel, .pinned], laidTests := true, laidLooks := .later }
def AccessCheckUptoCardSaid : Prop := Claim7.holds Tryz.pinned (.plain (OpenSpec.upto accessCheckSpec)) accessCheckUptoCard

/-- THE SECOND FORM's CARD OF 'quiltlaw54.AccessRoundTrip'. -/
def accessRoundTripUptoCard : Claim7 := { stood := { row := accessRoundTripUptoRow, standIns := [], harness := (true, "19cb996e17cb03363795252210eedbeb7e0412830aeb4e4f3b8d1488f488ed01"), looks := true }, kinds := [], alts := [], laidByText := true, laidKinds := [.data, .data, .data, .data, .sentinel, .sentinel, .pinned], laidTests := true, laidLooks := .later }
def AccessRoundTripUptoCardSaid : Prop := Claim7.holds Tryz.pinned (.plain (OpenSpec.upto accessRoundTripSpec)) accessRoundTripUptoCard
end Rows
end Go.Proofs.YtikckhebddimoaaGreatDoor
