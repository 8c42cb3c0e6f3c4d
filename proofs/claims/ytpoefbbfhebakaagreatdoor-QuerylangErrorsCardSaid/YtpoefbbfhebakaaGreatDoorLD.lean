/- What the arguments of the laws on queries read as. No condition. -/
import Derived.Test.YtpoefbbfhebakaaGreatDoorL8
import Derived.Test.YtpoefbbfhebakaaGreatDoorLv4
set_option linter.unusedVariables false
set_option linter.unusedSimpArgs false
open Go Go.Proofs
namespace Qv
theorem laid_out : laidOutB Tryz.prog = true := by kernel_rfl
def aTypes : List TypeId := [3,9,22,24]
theorem a_fine : fineTs Tryz.prog aTypes = true := by kernel_rfl
theorem bytes_fine : bytesFine Tryz.prog aTypes = true := by kernel_rfl
section
variable {H : Type} {d : DataW H} {xs : List AV}
end
theorem arg_one {H : Type} {t : TypeId} {d : DataW H} {x : AV} (hm : t ∈ aTypes) (h : DArg Tryz.prog t d x) (hw : ∀ n,n ∈ d.weights Tryz.prog t → n ≤ reachBytes) :
 ∃ ys,DRep Tryz.prog t d ys ∧ x = avOf Tryz.prog t ys ∧ ∀ y,y ∈ ys → AV.Small (2 ^ 47) y := by
 obtain ⟨ys,h1,h2⟩ := h
 exact ⟨ys,h1,h2,h1.small a_fine bytes_fine hm fun n hn => by have := hw n hn; unfold reachBytes at this; omega⟩
end Qv

