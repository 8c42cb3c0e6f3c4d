/-
  DERIVED. GIVEN WITH THE SEED: THE CARDS: each row of YtlbofhenpfnenaaGreatDoorRows.lean that lists a variable, with what it lists TIED to the program's text (the seventh form; the later family's looks); each row that meets fmt, with fmt's text TOLD by the authors' own Lean function (tested against real Go, not proved from fmt's source: count such statements apart). THE CARD IS WHAT COUNTS. Prove the row's statement (the work); the ties are given (YtlbofhenpfnenaaGreatDoorTie.lean); close each card by the builder's one call (the guide's Derived/Test/ToyasCard.lean, 'card_holds'). Laid BY PROGRAM, IN A SANDBOX (cutbox-door.mjs). By AI agents, Wed Nov 11 2026. No macro, syntax, notation, axiom, sorry.
-/
import Derived.Test.YtlbofhenpfnenaaGreatDoorRows
import GoSem.ClaimSeven
namespace Go.Proofs.YtlbofhenpfnenaaGreatDoor
namespace Rows

/-- THE TIED CARD OF 'quiltlaw20.RegisterConflicts'. -/
def registerConflictsCard : Claim7 := { stood := { row := registerConflictsRow, standIns := [], harness := (true, "6ba930dd1914837edbc00afe7e24ded1ca8b57596fa5e0c3b253d2674d29515d"), looks := false }, kinds := [], alts := [], laidByText := true, laidKinds := [.data, .data, .data], laidTests := true, laidLooks := .later }
def RegisterConflictsCardSaid : Prop := Claim7.holds Tryz.pinned (.plain (OpenSpec.ofChange registerConflictsSpec)) registerConflictsCard

/-- THE TIED CARD OF 'quiltlaw20.RegisterLast'. -/
def registerLastCard : Claim7 := { stood := { row := registerLastRow, standIns := [], harness := (true, "6ba930dd1914837edbc00afe7e24ded1ca8b57596fa5e0c3b253d2674d29515d"), looks := false }, kinds := [], alts := [], laidByText := true, laidKinds := [.data, .data, .data], laidTests := true, laidLooks := .later }
def RegisterLastCardSaid : Prop := Claim7.holds Tryz.pinned (.plain (OpenSpec.ofChange registerLastSpec)) registerLastCard

/-- THE TIED CARD OF 'quiltlaw20.RegisterBoth'. -/
def registerBothCard : Claim7 := { stood := { row := registerBothRow, standIns := [], harness := (true, "6ba930dd1914837edbc00afe7e24ded1ca8b57596fa5e0c3b253d2674d29515d"), looks := false }, kinds := [], alts := [], laidByText := true, laidKinds := [.data, .data, .data], laidTests := true, laidLooks := .later }
def RegisterBothCardSaid : Prop := Claim7.holds Tryz.pinned (.plain (OpenSpec.ofChange registerBothSpec)) registerBothCard

/-- THE TIED CARD OF 'quiltlaw20.RegisterValues'. -/
def registerValuesCard : Claim7 := { stood := { row := registerValuesRow, standIns := [], harness := (true, "6ba930dd1914837edbc00afe7e24ded1ca8b57596fa5e0c3b253d2674d29515d"), looks := false }, kinds := [], alts := [], laidByText := true, laidKinds := [.data, .data, .data], laidTests := true, laidLooks := .later }
def RegisterValuesCardSaid : Prop := Claim7.holds Tryz.pinned (.plain (OpenSpec.ofChange registerValuesSpec)) registerValuesCard

/-- THE TIED CARD OF 'quiltlaw20.RegisterShown'. -/
def registerShownCard : Claim7 := { stood := { row := registerShownRow, standIns := [], harness := (true, "6ba930dd1914837edbc00afe7e24ded1ca8b57596fa5e0c3b253d2674d29515d"), looks := false }, kinds := [], alts := [], laidByText := true, laidKinds := [.data, .data, .data], laidTests := true, laidLooks := .later }
def RegisterShownCardSaid : Prop := Claim7.holds Tryz.pinned (.plain (OpenSpec.ofChange registerShownSpec)) registerShownCard

/-- THE TIED CARD OF 'quiltlaw20.RegisterSplice'. -/
def registerSpliceCard : Claim7 := { stood := { row := registerSpliceRow, standIns := [], harness := (true, "6ba930dd1914837edbc00afe7e24ded1ca8b57596fa5e0c3b253d2674d29515d"), looks := false }, kinds := [], alts := [], laidByText := true, laidKinds := [.data, .data, .data], laidTests := true, laidLooks := .later }
def RegisterSpliceCardSaid : Prop := Claim7.holds Tryz.pinned (.plain (OpenSpec.ofChange registerSpliceSpec)) registerSpliceCard

/-- THE TIED CARD OF 'quiltlaw20.RegisterBack'. -/
def registerBackCard : Claim7 := { stood := { row := registerBackRow, standIns := [], harness := (true, "6ba930dd1914837edbc00afe7e24ded1ca8b57596fa5e0c3b253d2674d29515d"), looks := false }, kinds := [], alts := [], laidByText := true, laidKinds := [.data, .data, .data], laidTests := true, laidLooks := .later }
def RegisterBackCardSaid : Prop := Claim7.holds Tryz.pinned (.plain (OpenSpec.ofChange registerBackSpec)) registerBackCard

/-- THE TIED CARD OF 'quiltlaw20.RegisterBytes'. -/
def registerBytesCard : Claim7 := { stood := { row := registerBytesRow, standIns := [], harness := (true, "6ba930dd1914837edbc00afe7e24ded1ca8b57596fa5e0c3b253d2674d29515d"), looks := false }, kinds := [], alts := [], laidByText := true, laidKinds := [.data, .data, .data], laidTests := true, laidLooks := .later }
def RegisterBytesCardSaid : Prop := Claim7.holds Tryz.pinned (.plain (OpenSpec.ofChange registerBytesSpec)) registerBytesCard

/-- THE SECOND FORM's CARD OF 'quiltlaw20.RegisterConflicts'. -/
def registerConflictsUptoCard : Claim7 := { stood := { row := registerConflictsUptoRow, standIns := [], harness := (true, "6ba930dd1914837edbc00afe7e24ded1ca8b57596fa5e0c3b253d2674d29515d"), looks := false }, kinds := [], alts := [], laidByText := true, laidKinds := [.data, .data, .data], laidTests := true, laidLooks := .later }
def RegisterConflictsUptoCardSaid : Prop := Claim7.holds Tryz.pinned (.plain (OpenSpec.upto registerConflictsSpec)) registerConflictsUptoCard

/-- THE SECOND FORM's CARD OF 'quiltlaw20.RegisterLast'. -/
def registerLastUptoCard : Claim7 := { stood := { row := registerLastUptoRow, standIns := [], harness := (true, "6ba930dd1914837edbc00afe7e24ded1ca8b57596fa5e0c3b253d2674d29515d"), looks := false }, kinds := [], alts := [], laidByText := true, laidKinds := [.data, .data, .data], laidTests := true, laidLooks := .later }
def RegisterLastUptoCardSaid : Prop := Claim7.holds Tryz.pinned (.plain (OpenSpec.upto registerLastSpec)) registerLastUptoCard

/-- THE SECOND FORM's CARD OF 'quiltlaw20.RegisterBoth'. -/
def registerBothUptoCard : Claim7 := { stood := { row := registerBothUptoRow, standIns := [], harness := (true, "6ba930dd1914837edbc00afe7e24ded1ca8b57596fa5e0c3b253d2674d29515d"), looks := false }, kinds := [], alts := [], laidByText := true, laidKinds := [.data, .data, .data], laidTests := true, laidLooks := .later }
def RegisterBothUptoCardSaid : Prop := Claim7.holds Tryz.pinned (.plain (OpenSpec.upto registerBothSpec)) registerBothUptoCard

/-- THE SECOND FORM's CARD OF 'quiltlaw20.RegisterValues'. -/
def registerValuesUptoCard : Claim7 := { stood := { row := registerValuesUptoRow, standIns := [], harness := (true, "6ba930dd1914837edbc00afe7e24ded1ca8b57596fa5e0c3b253d2674d29515d"), looks := false }, kinds := [], alts := [], laidByText := true, laidKinds := [.data, .data, .data], laidTests := true, laidLooks := .later }
def RegisterValuesUptoCardSaid : Prop := Claim7.holds Tryz.pinned (.plain (OpenSpec.upto registerValuesSpec)) registerValuesUptoCard

/-- THE SECOND FORM's CARD OF 'quiltlaw20.RegisterShown'. -/
def registerShownUptoCard : Claim7 := { stood := { row := registerShownUptoRow, standIns := [], harness := (true, "6ba930dd1914837edbc00afe7e24ded1ca8b57596fa5e0c3b253d2674d29515d"), looks := false }, kinds := [], alts := [], laidByText := true, laidKinds := [.data, .data, .data], laidTests := true, laidLooks := .later }
def RegisterShownUptoCardSaid : Prop := Claim7.holds Tryz.pinned (.plain (OpenSpec.upto registerShownSpec)) registerShownUptoCard

/-- THE SECOND FORM's CARD OF 'quiltlaw20.RegisterSplice'. -/
def registerSpliceUptoCard : Claim7 := { stood := { row := registerSpliceUptoRow, standIns := [], harness := (true, "6ba930dd1914837edbc00afe7e24ded1ca8b57596fa5e0c3b253d2674d29515d"), looks := false }, kinds := [], alts := [], laidByText := true, laidKinds := [.data, .data, .data], laidTests := true, laidLooks := .later }
def RegisterSpliceUptoCardSaid : Prop := Claim7.holds Tryz.pinned (.plain (OpenSpec.upto registerSpliceSpec)) registerSpliceUptoCard

/-- THE SECOND FORM's CARD OF 'quiltlaw20.RegisterBack'. -/
def registerBackUptoCard : Claim7 := { stood := { row := registerBackUptoRow, standIns := [], harness := (true, "6ba930dd1914837edbc00afe7e24ded1ca8b57596fa5e0c3b253d2674d29515d"), looks := false }, kinds := [], alts := [], laidByText := true, laidKinds := [.data, .data, .data], laidTests := true, laidLooks := .later }
def RegisterBackUptoCardSaid : Prop := Claim7.holds Tryz.pinned (.plain (OpenSpec.upto registerBackSpec)) registerBackUptoCard

/-- THE SECOND FORM's CARD OF 'quiltlaw20.RegisterBytes'. -/
def registerBytesUptoCard : Claim7 := { stood := { row := registerBytesUptoRow, standIns := [], harness := (true, "6ba930dd1914837edbc00afe7e24ded1ca8b57596fa5e0c3b253d2674d29515d"), looks := false }, kinds := [], alts := [], laidByText := true, laidKinds := [.data, .data, .data], laidTests := true, laidLooks := .later }
def RegisterBytesUptoCardSaid : Prop := Claim7.holds Tryz.pinned (.plain (OpenSpec.upto registerBytesSpec)) registerBytesUptoCard
end Rows
end Go.Proofs.YtlbofhenpfnenaaGreatDoor
