/-
  DERIVED. GIVEN WITH THE SEED: THE CARDS: each row of YtbnnmamkplbdkaaDoorRows.lean that lists a variable, with what it lists TIED to the program's text (the seventh form; the later family's looks); each row that meets fmt, with fmt's text TOLD by the authors' own Lean function (tested against real Go, not proved from fmt's source: count such statements apart). THE CARD IS WHAT COUNTS. Prove the row's statement (the work); the ties are given (YtbnnmamkplbdkaaDoorTie.lean); close each card by the builder's one call (the guide's Derived/Test/ToyasCard.lean, 'card_holds'). Laid BY PROGRAM, IN A SANDBOX (cutbox-door.mjs). By AI agents, Wed Nov 11 2026. No macro, syntax, notation, axiom, sorry.
-/
import Derived.Test.YtbnnmamkplbdkaaDoorRows
import GoSem.ClaimSeven
namespace Go.Proofs.YtbnnmamkplbdkaaDoor
namespace Rows

/-- THE TIED CARD OF 'quiltlaw10.UnifiedBlocks'. -/
def unifiedBlocksCard : Claim7 := { stood := { row := unifiedBlocksRow, standIns := [], harness := (true, "1704d43e8f9961efbec1961ec61c9688ef7cca039562a7436c623f17fad73d50"), looks := true }, kinds := [], alts := [], laidByText := true, laidKinds := [.data, .data, .data], laidTests := true, laidLooks := .later }
def UnifiedBlocksCardSaid : Prop := Claim7.holds Tryd.pinned (.plain (OpenSpec.ofChange unifiedBlocksSpec)) unifiedBlocksCard

/-- THE TIED CARD OF 'quiltlaw10.UnifiedApply'. -/
def unifiedApplyCard : Claim7 := { stood := { row := unifiedApplyRow, standIns := [], harness := (true, "1704d43e8f9961efbec1961ec61c9688ef7cca039562a7436c623f17fad73d50"), looks := true }, kinds := [], alts := [], laidByText := true, laidKinds := [.data, .data, .data], laidTests := true, laidLooks := .later }
def UnifiedApplyCardSaid : Prop := Claim7.holds Tryd.pinned (.plain (OpenSpec.ofChange unifiedApplySpec)) unifiedApplyCard

/-- THE TIED CARD OF 'quiltlaw10.UnifiedApplies'. -/
def unifiedAppliesCard : Claim7 := { stood := { row := unifiedAppliesRow, standIns := [], harness := (true, "1704d43e8f9961efbec1961ec61c9688ef7cca039562a7436c623f17fad73d50"), looks := true }, kinds := [], alts := [], laidByText := true, laidKinds := [.data, .data, .data], laidTests := true, laidLooks := .later }
def UnifiedAppliesCardSaid : Prop := Claim7.holds Tryd.pinned (.plain (OpenSpec.ofChange unifiedAppliesSpec)) unifiedAppliesCard

/-- THE TIED CARD OF 'quiltlaw10.UnifiedPlaces'. -/
def unifiedPlacesCard : Claim7 := { stood := { row := unifiedPlacesRow, standIns := [], harness := (true, "1704d43e8f9961efbec1961ec61c9688ef7cca039562a7436c623f17fad73d50"), looks := true }, kinds := [], alts := [], laidByText := true, laidKinds := [.data, .data, .data], laidTests := true, laidLooks := .later }
def UnifiedPlacesCardSaid : Prop := Claim7.holds Tryd.pinned (.plain (OpenSpec.ofChange unifiedPlacesSpec)) unifiedPlacesCard

/-- THE TIED CARD OF 'quiltlaw10.UnifiedMoved'. -/
def unifiedMovedCard : Claim7 := { stood := { row := unifiedMovedRow, standIns := [], harness := (true, "1704d43e8f9961efbec1961ec61c9688ef7cca039562a7436c623f17fad73d50"), looks := true }, kinds := [], alts := [], laidByText := true, laidKinds := [.data, .data, .data], laidTests := true, laidLooks := .later }
def UnifiedMovedCardSaid : Prop := Claim7.holds Tryd.pinned (.plain (OpenSpec.ofChange unifiedMovedSpec)) unifiedMovedCard

/-- THE TIED CARD OF 'quiltlaw10.UnifiedTexts'. -/
def unifiedTextsCard : Claim7 := { stood := { row := unifiedTextsRow, standIns := [], harness := (true, "1704d43e8f9961efbec1961ec61c9688ef7cca039562a7436c623f17fad73d50"), looks := true }, kinds := [], alts := [], laidByText := true, laidKinds := [.data, .data, .data], laidTests := true, laidLooks := .later }
def UnifiedTextsCardSaid : Prop := Claim7.holds Tryd.pinned (.plain (OpenSpec.ofChange unifiedTextsSpec)) unifiedTextsCard

/-- THE TIED CARD OF 'quiltlaw10.UnifiedHunks'. -/
def unifiedHunksCard : Claim7 := { stood := { row := unifiedHunksRow, standIns := [], harness := (true, "1704d43e8f9961efbec1961ec61c9688ef7cca039562a7436c623f17fad73d50"), looks := true }, kinds := [], alts := [], laidByText := true, laidKinds := [.data, .data, .data], laidTests := true, laidLooks := .later }
def UnifiedHunksCardSaid : Prop := Claim7.holds Tryd.pinned (.plain (OpenSpec.ofChange unifiedHunksSpec)) unifiedHunksCard

/-- THE TIED CARD OF 'quiltlaw10.UnifiedRoundTrip'. -/
def unifiedRoundTripCard : Claim7 := { stood := { row := unifiedRoundTripRow, standIns := [], harness := (true, "1704d43e8f9961efbec1961ec61c9688ef7cca039562a7436c623f17fad73d50"), looks := true }, kinds := [], alts := [], laidByText := true, laidKinds := [.data, .data, .data, .sentinel, .sentinel], laidTests := true, laidLooks := .later }
def UnifiedRoundTripCardSaid : Prop := Claim7.holds Tryd.pinned (.plain (OpenSpec.ofChange unifiedRoundTripSpec)) unifiedRoundTripCard

/-- THE TIED CARD OF 'quiltlaw10.UnifiedCanonical'. -/
def unifiedCanonicalCard : Claim7 := { stood := { row := unifiedCanonicalRow, standIns := [], harness := (true, "1704d43e8f9961efbec1961ec61c9688ef7cca039562a7436c623f17fad73d50"), looks := true }, kinds := [], alts := [], laidByText := true, laidKinds := [.data, .data, .data, .sentinel, .sentinel], laidTests := true, laidLooks := .later }
def UnifiedCanonicalCardSaid : Prop := Claim7.holds Tryd.pinned (.plain (OpenSpec.ofChange unifiedCanonicalSpec)) unifiedCanonicalCard

/-- THE SECOND FORM's CARD OF 'quiltlaw10.UnifiedBlocks'. -/
def unifiedBlocksUptoCard : Claim7 := { stood := { row := unifiedBlocksUptoRow, standIns := [], harness := (true, "1704d43e8f9961efbec1961ec61c9688ef7cca039562a7436c623f17fad73d50"), looks := true }, kinds := [], alts := [], laidByText := true, laidKinds := [.data, .data, .data], laidTests := true, laidLooks := .later }
def UnifiedBlocksUptoCardSaid : Prop := Claim7.holds Tryd.pinned (.plain (OpenSpec.upto unifiedBlocksSpec)) unifiedBlocksUptoCard

/-- THE SECOND FORM's CARD OF 'quiltlaw10.UnifiedApply'. -/
def unifiedApplyUptoCard : Claim7 := { stood := { row := unifiedApplyUptoRow, standIns := [], harness := (true, "1704d43e8f9961efbec1961ec61c9688ef7cca039562a7436c623f17fad73d50"), looks := true }, kinds := [], alts := [], laidByText := true, laidKinds := [.data, .data, .data], laidTests := true, laidLooks := .later }
def UnifiedApplyUptoCardSaid : Prop := Claim7.holds Tryd.pinned (.plain (OpenSpec.upto unifiedApplySpec)) unifiedApplyUptoCard

/-- THE SECOND FORM's CARD OF 'quiltlaw10.UnifiedApplies'. -/
def unifiedAppliesUptoCard : Claim7 := { stood := { row := unifiedAppliesUptoRow, standIns := [], harness := (true, "1704d43e8f9961efbec1961ec61c9688ef7cca039562a7436c623f17fad73d50"), looks := true }, kinds := [], alts := [], laidByText := true, laidKinds := [.data, .data, .data], laidTests := true, laidLooks := .later }
def UnifiedAppliesUptoCardSaid : Prop := Claim7.holds Tryd.pinned (.plain (OpenSpec.upto unifiedAppliesSpec)) unifiedAppliesUptoCard

/-- THE SECOND FORM's CARD OF 'quiltlaw10.UnifiedPlaces'. -/
def unifiedPlacesUptoCard : Claim7 := { stood := { row := unifiedPlacesUptoRow, standIns := [], harness := (true, "1704d43e8f9961efbec1961ec61c9688ef7cca039562a7436c623f17fad73d50"), looks := true }, kinds := [], alts := [], laidByText := true, laidKinds := [.data, .data, .data], laidTests := true, laidLooks := .later }
def UnifiedPlacesUptoCardSaid : Prop := Claim7.holds Tryd.pinned (.plain (OpenSpec.upto unifiedPlacesSpec)) unifiedPlacesUptoCard

/-- THE SECOND FORM's CARD OF 'quiltlaw10.UnifiedMoved'. -/
def unifiedMovedUptoCard : Claim7 := { stood := { row := unifiedMovedUptoRow, standIns := [], harness := (true, "1704d43e8f9961efbec1961ec61c9688ef7cca039562a7436c623f17fad73d50"), looks := true }, kinds := [], alts := [], laidByText := true, laidKinds := [.data, .data, .data], laidTests := true, laidLooks := .later }
def UnifiedMovedUptoCardSaid : Prop := Claim7.holds Tryd.pinned (.plain (OpenSpec.upto unifiedMovedSpec)) unifiedMovedUptoCard

/-- THE SECOND FORM's CARD OF 'quiltlaw10.UnifiedTexts'. -/
def unifiedTextsUptoCard : Claim7 := { stood := { row := unifiedTextsUptoRow, standIns := [], harness := (true, "1704d43e8f9961efbec1961ec61c9688ef7cca039562a7436c623f17fad73d50"), looks := true }, kinds := [], alts := [], laidByText := true, laidKinds := [.data, .data, .data], laidTests := true, laidLooks := .later }
def UnifiedTextsUptoCardSaid : Prop := Claim7.holds Tryd.pinned (.plain (OpenSpec.upto unifiedTextsSpec)) unifiedTextsUptoCard

/-- THE SECOND FORM's CARD OF 'quiltlaw10.UnifiedHunks'. -/
def unifiedHunksUptoCard : Claim7 := { stood := { row := unifiedHunksUptoRow, standIns := [], harness := (true, "1704d43e8f9961efbec1961ec61c9688ef7cca039562a7436c623f17fad73d50"), looks := true }, kinds := [], alts := [], laidByText := true, laidKinds := [.data, .data, .data], laidTests := true, laidLooks := .later }
def UnifiedHunksUptoCardSaid : Prop := Claim7.holds Tryd.pinned (.plain (OpenSpec.upto unifiedHunksSpec)) unifiedHunksUptoCard

/-- THE SECOND FORM's CARD OF 'quiltlaw10.UnifiedRoundTrip'. -/
def unifiedRoundTripUptoCard : Claim7 := { stood := { row := unifiedRoundTripUptoRow, standIns := [], harness := (true, "1704d43e8f9961efbec1961ec61c9688ef7cca039562a7436c623f17fad73d50"), looks := true }, kinds := [], alts := [], laidByText := true, laidKinds := [.data, .data, .data, .sentinel, .sentinel], laidTests := true, laidLooks := .later }
def UnifiedRoundTripUptoCardSaid : Prop := Claim7.holds Tryd.pinned (.plain (OpenSpec.upto unifiedRoundTripSpec)) unifiedRoundTripUptoCard

/-- THE SECOND FORM's CARD OF 'quiltlaw10.UnifiedCanonical'. -/
def unifiedCanonicalUptoCard : Claim7 := { stood := { row := unifiedCanonicalUptoRow, standIns := [], harness := (true, "1704d43e8f9961efbec1961ec61c9688ef7cca039562a7436c623f17fad73d50"), looks := true }, kinds := [], alts := [], laidByText := true, laidKinds := [.data, .data, .data, .sentinel, .sentinel], laidTests := true, laidLooks := .later }
def UnifiedCanonicalUptoCardSaid : Prop := Claim7.holds Tryd.pinned (.plain (OpenSpec.upto unifiedCanonicalSpec)) unifiedCanonicalUptoCard
end Rows
end Go.Proofs.YtbnnmamkplbdkaaDoor
