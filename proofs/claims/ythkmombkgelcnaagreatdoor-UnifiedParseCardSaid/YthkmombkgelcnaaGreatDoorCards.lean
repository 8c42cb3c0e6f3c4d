/-
  DERIVED. GIVEN WITH THE SEED: THE CARDS: each row of YthkmombkgelcnaaGreatDoorRows.lean that lists a variable, with what it lists TIED to the program's text (the seventh form; the later family's looks); each row that meets fmt, with fmt's text TOLD by the authors' own Lean function (tested against real Go, not proved from fmt's source: count such statements apart). THE CARD IS WHAT COUNTS. Prove the row's statement (the work); the ties are given (YthkmombkgelcnaaGreatDoorTie.lean); close each card by the builder's one call (the guide's Derived/Test/ToyasCard.lean, 'card_holds'). Laid BY PROGRAM, IN A SANDBOX (cutbox-door.mjs). By AI agents, Wed Nov 11 2026. No macro, syntax, notation, axiom, sorry.
-/
import Derived.Test.YthkmombkgelcnaaGreatDoorRows
import GoSem.ClaimSeven
namespace Go.Proofs.YthkmombkgelcnaaGreatDoor
namespace Rows

/-- THE TIED CARD OF 'quiltlaw10.UnifiedParse'. -/
def unifiedParseCard : Claim7 := { stood := { row := unifiedParseRow, standIns := [], harness := (true, "1e85ed5e328811d2d30f4fa44c58f3182ee180dace6c611b35a363c7bc801cf3"), looks := true }, kinds := [], alts := [], laidByText := true, laidKinds := [.data, .data, .data, .sentinel, .sentinel], laidTests := true, laidLooks := .later }
def UnifiedParseCardSaid : Prop := Claim7.holds Tryz.pinned (.plain (OpenSpec.ofChange unifiedParseSpec)) unifiedParseCard

/-- THE SECOND FORM's CARD OF 'quiltlaw10.UnifiedParse'. -/
def unifiedParseUptoCard : Claim7 := { stood := { row := unifiedParseUptoRow, standIns := [], harness := (true, "1e85ed5e328811d2d30f4fa44c58f3182ee180dace6c611b35a363c7bc801cf3"), looks := true }, kinds := [], alts := [], laidByText := true, laidKinds := [.data, .data, .data, .sentinel, .sentinel], laidTests := true, laidLooks := .later }
def UnifiedParseUptoCardSaid : Prop := Claim7.holds Tryz.pinned (.plain (OpenSpec.upto unifiedParseSpec)) unifiedParseUptoCard
end Rows
end Go.Proofs.YthkmombkgelcnaaGreatDoor
