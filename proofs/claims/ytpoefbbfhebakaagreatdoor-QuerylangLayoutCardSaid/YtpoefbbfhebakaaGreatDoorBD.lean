/- What the arguments of the laws on queries read as. No condition. -/
import Derived.Test.YtpoefbbfhebakaaGreatDoorB8
import Derived.Test.YtpoefbbfhebakaaGreatDoorBv4
set_option linter.unusedVariables false
set_option linter.unusedSimpArgs false
open Go Go.Proofs
namespace Qv
theorem laid_out : laidOutB Tryz.prog = true := by kernel_rfl
section
variable {H : Type} {d : DataW H} {xs : List AV}
end
end Qv

