/-
  DERIVED. GIVEN WITH THE SEED: THE CARDS: each row of YtpoefbbfhebakaaGreatDoorRows.lean that lists a variable, with what it lists TIED to the program's text (the seventh form; the later family's looks); each row that meets fmt, with fmt's text TOLD by the authors' own Lean function (tested against real Go, not proved from fmt's source: count such statements apart). THE CARD IS WHAT COUNTS. Prove the row's statement (the work); the ties are given (YtpoefbbfhebakaaGreatDoorTie.lean); close each card by the builder's one call (the guide's Derived/Test/ToyasCard.lean, 'card_holds'). Laid BY PROGRAM, IN A SANDBOX (cutbox-door.mjs). By AI agents, Wed Nov 11 2026. No macro, syntax, notation, axiom, sorry.
-/
import Derived.Test.YtpoefbbfhebakaaGreatDoorRows
import GoSem.ClaimSeven
namespace Go.Proofs.YtpoefbbfhebakaaGreatDoor
namespace Rows

/-- THE TIED CARD OF 'quiltlaw35.QueryoptNormal'. -/
def queryoptNormalCard : Claim7 := { stood := { row := queryoptNormalRow, standIns := [], harness := (true, "4b336190025550d3137be4303c99742595e24f8e5bf20152c04df9c436e360d5"), looks := true }, kinds := [], alts := [], laidByText := true, laidKinds := [.data, .pinned], laidTests := true, laidLooks := .later }
def QueryoptNormalCardSaid : Prop := Claim7.holds Tryz.pinned (.plain (OpenSpec.ofChange queryoptNormalSpec)) queryoptNormalCard

/-- THE TIED CARD OF 'quiltlaw35.QueryoptDisjoint'. -/
def queryoptDisjointCard : Claim7 := { stood := { row := queryoptDisjointRow, standIns := [], harness := (true, "4b336190025550d3137be4303c99742595e24f8e5bf20152c04df9c436e360d5"), looks := true }, kinds := [], alts := [], laidByText := true, laidKinds := [.data, .pinned], laidTests := true, laidLooks := .later }
def QueryoptDisjointCardSaid : Prop := Claim7.holds Tryz.pinned (.plain (OpenSpec.ofChange queryoptDisjointSpec)) queryoptDisjointCard

/-- THE TIED CARD OF 'quiltlaw35.QueryoptInside'. -/
def queryoptInsideCard : Claim7 := { stood := { row := queryoptInsideRow, standIns := [], harness := (true, "4b336190025550d3137be4303c99742595e24f8e5bf20152c04df9c436e360d5"), looks := true }, kinds := [], alts := [], laidByText := true, laidKinds := [.data, .pinned], laidTests := true, laidLooks := .later }
def QueryoptInsideCardSaid : Prop := Claim7.holds Tryz.pinned (.plain (OpenSpec.ofChange queryoptInsideSpec)) queryoptInsideCard

/-- THE TIED CARD OF 'quiltlaw35.QueryoptOptimize'. -/
def queryoptOptimizeCard : Claim7 := { stood := { row := queryoptOptimizeRow, standIns := [], harness := (true, "4b336190025550d3137be4303c99742595e24f8e5bf20152c04df9c436e360d5"), looks := true }, kinds := [], alts := [], laidByText := true, laidKinds := [.data, .pinned], laidTests := true, laidLooks := .later }
def QueryoptOptimizeCardSaid : Prop := Claim7.holds Tryz.pinned (.plain (OpenSpec.ofChange queryoptOptimizeSpec)) queryoptOptimizeCard

/-- THE TIED CARD OF 'quiltlaw35.QueryoptCheaper'. -/
def queryoptCheaperCard : Claim7 := { stood := { row := queryoptCheaperRow, standIns := [], harness := (true, "4b336190025550d3137be4303c99742595e24f8e5bf20152c04df9c436e360d5"), looks := true }, kinds := [], alts := [], laidByText := true, laidKinds := [.data, .pinned], laidTests := true, laidLooks := .later }
def QueryoptCheaperCardSaid : Prop := Claim7.holds Tryz.pinned (.plain (OpenSpec.ofChange queryoptCheaperSpec)) queryoptCheaperCard

/-- THE TIED CARD OF 'quiltlaw33.QuerylangCheck'. -/
def querylangCheckCard : Claim7 := { stood := { row := querylangCheckRow, standIns := [], harness := (true, "4b336190025550d3137be4303c99742595e24f8e5bf20152c04df9c436e360d5"), looks := true }, kinds := [], alts := [], laidByText := true, laidKinds := [.data, .data, .data, .data, .sentinel, .sentinel, .widerDeep, .pinned], laidTests := true, laidLooks := .later }
def QuerylangCheckCardSaid : Prop := Claim7.holds Tryz.pinned (.plain (OpenSpec.ofChange querylangCheckSpec)) querylangCheckCard

/-- THE TIED CARD OF 'quiltlaw33.QuerylangParse'. -/
def querylangParseCard : Claim7 := { stood := { row := querylangParseRow, standIns := [], harness := (true, "4b336190025550d3137be4303c99742595e24f8e5bf20152c04df9c436e360d5"), looks := true }, kinds := [], alts := [], laidByText := true, laidKinds := [.data, .data, .data, .data, .sentinel, .sentinel, .widerDeep, .pinned], laidTests := true, laidLooks := .later }
def QuerylangParseCardSaid : Prop := Claim7.holds Tryz.pinned (.plain (OpenSpec.ofChange querylangParseSpec)) querylangParseCard

/-- THE TIED CARD OF 'quiltlaw33.QuerylangRoundTrip'. -/
def querylangRoundTripCard : Claim7 := { stood := { row := querylangRoundTripRow, standIns := [], harness := (true, "4b336190025550d3137be4303c99742595e24f8e5bf20152c04df9c436e360d5"), looks := true }, kinds := [], alts := [], laidByText := true, laidKinds := [.data, .data, .data, .data, .sentinel, .sentinel, .widerDeep, .pinned], laidTests := true, laidLooks := .later }
def QuerylangRoundTripCardSaid : Prop := Claim7.holds Tryz.pinned (.plain (OpenSpec.ofChange querylangRoundTripSpec)) querylangRoundTripCard

/-- THE TIED CARD OF 'quiltlaw33.QuerylangCanonical'. -/
def querylangCanonicalCard : Claim7 := { stood := { row := querylangCanonicalRow, standIns := [], harness := (true, "4b336190025550d3137be4303c99742595e24f8e5bf20152c04df9c436e360d5"), looks := true }, kinds := [], alts := [], laidByText := true, laidKinds := [.data, .data, .data, .data, .sentinel, .sentinel, .widerDeep, .pinned], laidTests := true, laidLooks := .later }
def QuerylangCanonicalCardSaid : Prop := Claim7.holds Tryz.pinned (.plain (OpenSpec.ofChange querylangCanonicalSpec)) querylangCanonicalCard

/-- THE TIED CARD OF 'quiltlaw33.QuerylangLayout'. -/
def querylangLayoutCard : Claim7 := { stood := { row := querylangLayoutRow, standIns := [], harness := (true, "4b336190025550d3137be4303c99742595e24f8e5bf20152c04df9c436e360d5"), looks := true }, kinds := [], alts := [], laidByText := true, laidKinds := [.data, .data, .data, .data, .sentinel, .sentinel, .widerDeep, .pinned], laidTests := true, laidLooks := .later }
def QuerylangLayoutCardSaid : Prop := Claim7.holds Tryz.pinned (.plain (OpenSpec.ofChange querylangLayoutSpec)) querylangLayoutCard

/-- THE TIED CARD OF 'quiltlaw33.QuerylangBinding'. -/
def querylangBindingCard : Claim7 := { stood := { row := querylangBindingRow, standIns := [], harness := (true, "4b336190025550d3137be4303c99742595e24f8e5bf20152c04df9c436e360d5"), looks := true }, kinds := [], alts := [], laidByText := true, laidKinds := [.data, .data, .data, .data, .sentinel, .sentinel, .widerDeep, .pinned], laidTests := true, laidLooks := .later }
def QuerylangBindingCardSaid : Prop := Claim7.holds Tryz.pinned (.plain (OpenSpec.ofChange querylangBindingSpec)) querylangBindingCard

/-- THE TIED CARD OF 'quiltlaw33.QuerylangErrors'. -/
def querylangErrorsCard : Claim7 := { stood := { row := querylangErrorsRow, standIns := [], harness := (true, "4b336190025550d3137be4303c99742595e24f8e5bf20152c04df9c436e360d5"), looks := true }, kinds := [], alts := [], laidByText := true, laidKinds := [.data, .data, .data, .data, .sentinel, .sentinel, .widerDeep, .pinned], laidTests := true, laidLooks := .later }
def QuerylangErrorsCardSaid : Prop := Claim7.holds Tryz.pinned (.plain (OpenSpec.ofChange querylangErrorsSpec)) querylangErrorsCard

/-- THE SECOND FORM's CARD OF 'quiltlaw35.QueryoptNormal'. -/
def queryoptNormalUptoCard : Claim7 := { stood := { row := queryoptNormalUptoRow, standIns := [], harness := (true, "4b336190025550d3137be4303c99742595e24f8e5bf20152c04df9c436e360d5"), looks := true }, kinds := [], alts := [], laidByText := true, laidKinds := [.data, .pinned], laidTests := true, laidLooks := .later }
def QueryoptNormalUptoCardSaid : Prop := Claim7.holds Tryz.pinned (.plain (OpenSpec.upto queryoptNormalSpec)) queryoptNormalUptoCard

/-- THE SECOND FORM's CARD OF 'quiltlaw35.QueryoptDisjoint'. -/
def queryoptDisjointUptoCard : Claim7 := { stood := { row := queryoptDisjointUptoRow, standIns := [], harness := (true, "4b336190025550d3137be4303c99742595e24f8e5bf20152c04df9c436e360d5"), looks := true }, kinds := [], alts := [], laidByText := true, laidKinds := [.data, .pinned], laidTests := true, laidLooks := .later }
def QueryoptDisjointUptoCardSaid : Prop := Claim7.holds Tryz.pinned (.plain (OpenSpec.upto queryoptDisjointSpec)) queryoptDisjointUptoCard

/-- THE SECOND FORM's CARD OF 'quiltlaw35.QueryoptInside'. -/
def queryoptInsideUptoCard : Claim7 := { stood := { row := queryoptInsideUptoRow, standIns := [], harness := (true, "4b336190025550d3137be4303c99742595e24f8e5bf20152c04df9c436e360d5"), looks := true }, kinds := [], alts := [], laidByText := true, laidKinds := [.data, .pinned], laidTests := true, laidLooks := .later }
def QueryoptInsideUptoCardSaid : Prop := Claim7.holds Tryz.pinned (.plain (OpenSpec.upto queryoptInsideSpec)) queryoptInsideUptoCard

/-- THE SECOND FORM's CARD OF 'quiltlaw35.QueryoptOptimize'. -/
def queryoptOptimizeUptoCard : Claim7 := { stood := { row := queryoptOptimizeUptoRow, standIns := [], harness := (true, "4b336190025550d3137be4303c99742595e24f8e5bf20152c04df9c436e360d5"), looks := true }, kinds := [], alts := [], laidByText := true, laidKinds := [.data, .pinned], laidTests := true, laidLooks := .later }
def QueryoptOptimizeUptoCardSaid : Prop := Claim7.holds Tryz.pinned (.plain (OpenSpec.upto queryoptOptimizeSpec)) queryoptOptimizeUptoCard

/-- THE SECOND FORM's CARD OF 'quiltlaw35.QueryoptCheaper'. -/
def queryoptCheaperUptoCard : Claim7 := { stood := { row := queryoptCheaperUptoRow, standIns := [], harness := (true, "4b336190025550d3137be4303c99742595e24f8e5bf20152c04df9c436e360d5"), looks := true }, kinds := [], alts := [], laidByText := true, laidKinds := [.data, .pinned], laidTests := true, laidLooks := .later }
def QueryoptCheaperUptoCardSaid : Prop := Claim7.holds Tryz.pinned (.plain (OpenSpec.upto queryoptCheaperSpec)) queryoptCheaperUptoCard

/-- THE SECOND FORM's CARD OF 'quiltlaw33.QuerylangCheck'. -/
def querylangCheckUptoCard : Claim7 := { stood := { row := querylangCheckUptoRow, standIns := [], harness := (true, "4b336190025550d3137be4303c99742595e24f8e5bf20152c04df9c436e360d5"), looks := true }, kinds := [], alts := [], laidByText := true, laidKinds := [.data, .data, .data, .data, .sentinel, .sentinel, .widerDeep, .pinned], laidTests := true, laidLooks := .later }
def QuerylangCheckUptoCardSaid : Prop := Claim7.holds Tryz.pinned (.plain (OpenSpec.upto querylangCheckSpec)) querylangCheckUptoCard

/-- THE SECOND FORM's CARD OF 'quiltlaw33.QuerylangParse'. -/
def querylangParseUptoCard : Claim7 := { stood := { row := querylangParseUptoRow, standIns := [], harness := (true, "4b336190025550d3137be4303c99742595e24f8e5bf20152c04df9c436e360d5"), looks := true }, kinds := [], alts := [], laidByText := true, laidKinds := [.data, .data, .data, .data, .sentinel, .sentinel, .widerDeep, .pinned], laidTests := true, laidLooks := .later }
def QuerylangParseUptoCardSaid : Prop := Claim7.holds Tryz.pinned (.plain (OpenSpec.upto querylangParseSpec)) querylangParseUptoCard

/-- THE SECOND FORM's CARD OF 'quiltlaw33.QuerylangRoundTrip'. -/
def querylangRoundTripUptoCard : Claim7 := { stood := { row := querylangRoundTripUptoRow, standIns := [], harness := (true, "4b336190025550d3137be4303c99742595e24f8e5bf20152c04df9c436e360d5"), looks := true }, kinds := [], alts := [], laidByText := true, laidKinds := [.data, .data, .data, .data, .sentinel, .sentinel, .widerDeep, .pinned], laidTests := true, laidLooks := .later }
def QuerylangRoundTripUptoCardSaid : Prop := Claim7.holds Tryz.pinned (.plain (OpenSpec.upto querylangRoundTripSpec)) querylangRoundTripUptoCard

/-- THE SECOND FORM's CARD OF 'quiltlaw33.QuerylangCanonical'. -/
def querylangCanonicalUptoCard : Claim7 := { stood := { row := querylangCanonicalUptoRow, standIns := [], harness := (true, "4b336190025550d3137be4303c99742595e24f8e5bf20152c04df9c436e360d5"), looks := true }, kinds := [], alts := [], laidByText := true, laidKinds := [.data, .data, .data, .data, .sentinel, .sentinel, .widerDeep, .pinned], laidTests := true, laidLooks := .later }
def QuerylangCanonicalUptoCardSaid : Prop := Claim7.holds Tryz.pinned (.plain (OpenSpec.upto querylangCanonicalSpec)) querylangCanonicalUptoCard

/-- THE SECOND FORM's CARD OF 'quiltlaw33.QuerylangLayout'. -/
def querylangLayoutUptoCard : Claim7 := { stood := { row := querylangLayoutUptoRow, standIns := [], harness := (true, "4b336190025550d3137be4303c99742595e24f8e5bf20152c04df9c436e360d5"), looks := true }, kinds := [], alts := [], laidByText := true, laidKinds := [.data, .data, .data, .data, .sentinel, .sentinel, .widerDeep, .pinned], laidTests := true, laidLooks := .later }
def QuerylangLayoutUptoCardSaid : Prop := Claim7.holds Tryz.pinned (.plain (OpenSpec.upto querylangLayoutSpec)) querylangLayoutUptoCard

/-- THE SECOND FORM's CARD OF 'quiltlaw33.QuerylangBinding'. -/
def querylangBindingUptoCard : Claim7 := { stood := { row := querylangBindingUptoRow, standIns := [], harness := (true, "4b336190025550d3137be4303c99742595e24f8e5bf20152c04df9c436e360d5"), looks := true }, kinds := [], alts := [], laidByText := true, laidKinds := [.data, .data, .data, .data, .sentinel, .sentinel, .widerDeep, .pinned], laidTests := true, laidLooks := .later }
def QuerylangBindingUptoCardSaid : Prop := Claim7.holds Tryz.pinned (.plain (OpenSpec.upto querylangBindingSpec)) querylangBindingUptoCard

/-- THE SECOND FORM's CARD OF 'quiltlaw33.QuerylangErrors'. -/
def querylangErrorsUptoCard : Claim7 := { stood := { row := querylangErrorsUptoRow, standIns := [], harness := (true, "4b336190025550d3137be4303c99742595e24f8e5bf20152c04df9c436e360d5"), looks := true }, kinds := [], alts := [], laidByText := true, laidKinds := [.data, .data, .data, .data, .sentinel, .sentinel, .widerDeep, .pinned], laidTests := true, laidLooks := .later }
def QuerylangErrorsUptoCardSaid : Prop := Claim7.holds Tryz.pinned (.plain (OpenSpec.upto querylangErrorsSpec)) querylangErrorsUptoCard
end Rows
end Go.Proofs.YtpoefbbfhebakaaGreatDoor
