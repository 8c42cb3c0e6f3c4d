/-
  DERIVED. GIVEN WITH THE SEED: THE CARDS: each row of YtiboombocnfngaaGreatDoorRows.lean that lists a variable, with what it lists TIED to the program's text (the seventh form; the later family's looks); each row that meets fmt, with fmt's text TOLD by the authors' own Lean function (tested against real Go, not proved from fmt's source: count such statements apart). THE CARD IS WHAT COUNTS. Prove the row's statement (the work); the ties are given (YtiboombocnfngaaGreatDoorTie.lean); close each card by the builder's one call (the guide's Derived/Test/ToyasCard.lean, 'card_holds'). Laid BY PROGRAM, IN A SANDBOX (cutbox-door.mjs). By AI agents, Wed Nov 11 2026. No macro, syntax, notation, axiom, sorry.
-/
import Derived.Test.YtiboombocnfngaaGreatDoorRows
import GoSem.ClaimSeven
namespace Go.Proofs.YtiboombocnfngaaGreatDoor
namespace Rows

/-- THE TIED CARD OF 'quiltlaw25.PristineOrder'. -/
def pristineOrderCard : Claim7 := { stood := { row := pristineOrderRow, standIns := [], harness := (true, "640fb0f3290a744384ec56a7f56009ab9cc3c5a0ed86d7c5a5101c851562f4f8"), looks := false }, kinds := [], alts := [], laidByText := true, laidKinds := [.data, .data, .data], laidTests := true, laidLooks := .later }
def PristineOrderCardSaid : Prop := Claim7.holds Tryz.pinned (.plain (OpenSpec.ofChange pristineOrderSpec)) pristineOrderCard

/-- THE TIED CARD OF 'quiltlaw25.PristineApply'. -/
def pristineApplyCard : Claim7 := { stood := { row := pristineApplyRow, standIns := [], harness := (true, "640fb0f3290a744384ec56a7f56009ab9cc3c5a0ed86d7c5a5101c851562f4f8"), looks := false }, kinds := [], alts := [], laidByText := true, laidKinds := [.data, .data, .data], laidTests := true, laidLooks := .later }
def PristineApplyCardSaid : Prop := Claim7.holds Tryz.pinned (.plain (OpenSpec.ofChange pristineApplySpec)) pristineApplyCard

/-- THE TIED CARD OF 'quiltlaw25.PristineLiving'. -/
def pristineLivingCard : Claim7 := { stood := { row := pristineLivingRow, standIns := [], harness := (true, "640fb0f3290a744384ec56a7f56009ab9cc3c5a0ed86d7c5a5101c851562f4f8"), looks := false }, kinds := [], alts := [], laidByText := true, laidKinds := [.data, .data, .data], laidTests := true, laidLooks := .later }
def PristineLivingCardSaid : Prop := Claim7.holds Tryz.pinned (.plain (OpenSpec.ofChange pristineLivingSpec)) pristineLivingCard

/-- THE TIED CARD OF 'quiltlaw25.PristineRemoved'. -/
def pristineRemovedCard : Claim7 := { stood := { row := pristineRemovedRow, standIns := [], harness := (true, "640fb0f3290a744384ec56a7f56009ab9cc3c5a0ed86d7c5a5101c851562f4f8"), looks := false }, kinds := [], alts := [], laidByText := true, laidKinds := [.data, .data, .data], laidTests := true, laidLooks := .later }
def PristineRemovedCardSaid : Prop := Claim7.holds Tryz.pinned (.plain (OpenSpec.ofChange pristineRemovedSpec)) pristineRemovedCard

/-- THE TIED CARD OF 'quiltlaw25.PristineAdded'. -/
def pristineAddedCard : Claim7 := { stood := { row := pristineAddedRow, standIns := [], harness := (true, "640fb0f3290a744384ec56a7f56009ab9cc3c5a0ed86d7c5a5101c851562f4f8"), looks := false }, kinds := [], alts := [], laidByText := true, laidKinds := [.data, .data, .data], laidTests := true, laidLooks := .later }
def PristineAddedCardSaid : Prop := Claim7.holds Tryz.pinned (.plain (OpenSpec.ofChange pristineAddedSpec)) pristineAddedCard

/-- THE TIED CARD OF 'quiltlaw25.PristineUndone'. -/
def pristineUndoneCard : Claim7 := { stood := { row := pristineUndoneRow, standIns := [], harness := (true, "640fb0f3290a744384ec56a7f56009ab9cc3c5a0ed86d7c5a5101c851562f4f8"), looks := false }, kinds := [], alts := [], laidByText := true, laidKinds := [.data, .data, .data], laidTests := true, laidLooks := .later }
def PristineUndoneCardSaid : Prop := Claim7.holds Tryz.pinned (.plain (OpenSpec.ofChange pristineUndoneSpec)) pristineUndoneCard

/-- THE TIED CARD OF 'quiltlaw25.PristineSet'. -/
def pristineSetCard : Claim7 := { stood := { row := pristineSetRow, standIns := [], harness := (true, "640fb0f3290a744384ec56a7f56009ab9cc3c5a0ed86d7c5a5101c851562f4f8"), looks := false }, kinds := [], alts := [], laidByText := true, laidKinds := [.data, .data, .data], laidTests := true, laidLooks := .later }
def PristineSetCardSaid : Prop := Claim7.holds Tryz.pinned (.plain (OpenSpec.ofChange pristineSetSpec)) pristineSetCard

/-- THE SECOND FORM's CARD OF 'quiltlaw25.PristineOrder'. -/
def pristineOrderUptoCard : Claim7 := { stood := { row := pristineOrderUptoRow, standIns := [], harness := (true, "640fb0f3290a744384ec56a7f56009ab9cc3c5a0ed86d7c5a5101c851562f4f8"), looks := false }, kinds := [], alts := [], laidByText := true, laidKinds := [.data, .data, .data], laidTests := true, laidLooks := .later }
def PristineOrderUptoCardSaid : Prop := Claim7.holds Tryz.pinned (.plain (OpenSpec.upto pristineOrderSpec)) pristineOrderUptoCard

/-- THE SECOND FORM's CARD OF 'quiltlaw25.PristineApply'. -/
def pristineApplyUptoCard : Claim7 := { stood := { row := pristineApplyUptoRow, standIns := [], harness := (true, "640fb0f3290a744384ec56a7f56009ab9cc3c5a0ed86d7c5a5101c851562f4f8"), looks := false }, kinds := [], alts := [], laidByText := true, laidKinds := [.data, .data, .data], laidTests := true, laidLooks := .later }
def PristineApplyUptoCardSaid : Prop := Claim7.holds Tryz.pinned (.plain (OpenSpec.upto pristineApplySpec)) pristineApplyUptoCard

/-- THE SECOND FORM's CARD OF 'quiltlaw25.PristineLiving'. -/
def pristineLivingUptoCard : Claim7 := { stood := { row := pristineLivingUptoRow, standIns := [], harness := (true, "640fb0f3290a744384ec56a7f56009ab9cc3c5a0ed86d7c5a5101c851562f4f8"), looks := false }, kinds := [], alts := [], laidByText := true, laidKinds := [.data, .data, .data], laidTests := true, laidLooks := .later }
def PristineLivingUptoCardSaid : Prop := Claim7.holds Tryz.pinned (.plain (OpenSpec.upto pristineLivingSpec)) pristineLivingUptoCard

/-- THE SECOND FORM's CARD OF 'quiltlaw25.PristineRemoved'. -/
def pristineRemovedUptoCard : Claim7 := { stood := { row := pristineRemovedUptoRow, standIns := [], harness := (true, "640fb0f3290a744384ec56a7f56009ab9cc3c5a0ed86d7c5a5101c851562f4f8"), looks := false }, kinds := [], alts := [], laidByText := true, laidKinds := [.data, .data, .data], laidTests := true, laidLooks := .later }
def PristineRemovedUptoCardSaid : Prop := Claim7.holds Tryz.pinned (.plain (OpenSpec.upto pristineRemovedSpec)) pristineRemovedUptoCard

/-- THE SECOND FORM's CARD OF 'quiltlaw25.PristineAdded'. -/
def pristineAddedUptoCard : Claim7 := { stood := { row := pristineAddedUptoRow, standIns := [], harness := (true, "640fb0f3290a744384ec56a7f56009ab9cc3c5a0ed86d7c5a5101c851562f4f8"), looks := false }, kinds := [], alts := [], laidByText := true, laidKinds := [.data, .data, .data], laidTests := true, laidLooks := .later }
def PristineAddedUptoCardSaid : Prop := Claim7.holds Tryz.pinned (.plain (OpenSpec.upto pristineAddedSpec)) pristineAddedUptoCard

/-- THE SECOND FORM's CARD OF 'quiltlaw25.PristineUndone'. -/
def pristineUndoneUptoCard : Claim7 := { stood := { row := pristineUndoneUptoRow, standIns := [], harness := (true, "640fb0f3290a744384ec56a7f56009ab9cc3c5a0ed86d7c5a5101c851562f4f8"), looks := false }, kinds := [], alts := [], laidByText := true, laidKinds := [.data, .data, .data], laidTests := true, laidLooks := .later }
def PristineUndoneUptoCardSaid : Prop := Claim7.holds Tryz.pinned (.plain (OpenSpec.upto pristineUndoneSpec)) pristineUndoneUptoCard

/-- THE SECOND FORM's CARD OF 'quiltlaw25.PristineSet'. -/
def pristineSetUptoCard : Claim7 := { stood := { row := pristineSetUptoRow, standIns := [], harness := (true, "640fb0f3290a744384ec56a7f56009ab9cc3c5a0ed86d7c5a5101c851562f4f8"), looks := false }, kinds := [], alts := [], laidByText := true, laidKinds := [.data, .data, .data], laidTests := true, laidLooks := .later }
def PristineSetUptoCardSaid : Prop := Claim7.holds Tryz.pinned (.plain (OpenSpec.upto pristineSetSpec)) pristineSetUptoCard
end Rows
end Go.Proofs.YtiboombocnfngaaGreatDoor
