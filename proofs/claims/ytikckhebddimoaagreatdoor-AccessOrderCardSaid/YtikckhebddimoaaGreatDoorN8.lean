/- Several texts in one: Contract of the reference's glob: component1, Contract of the reference's glob: after, Contract of the reference's glob: Match. No condition. -/
import Derived.Test.YtikckhebddimoaaGreatDoorN7

section
/- Contract of the reference's glob: component1. No condition. -/
set_option linter.unusedVariables false
set_option linter.unusedSimpArgs false
open Go Go.Proofs Go.RowKit
namespace Qv
theorem hasO_eq {objs : List (Nat × List FV)} {o : Nat} {l0 l : List FV} (h : Qv.getObj objs o = some l0) (e : l0 = l) : ∃ ys, Qv.getObj objs o = some ys ∧ ys.length = l.length ∧ ∀ (i : Nat) (x y : FV), ys[i]? = some x → l[i]? = some y → Weak x y :=
  hasO_one (e ▸ h)
end Qv

end

section
/- Contract of the reference's glob: after. No condition. -/
set_option linter.unusedVariables false
set_option linter.unusedSimpArgs false
open Go Go.Proofs Go.RowKit
namespace Qv
end Qv

end

section
/- Contract of the reference's glob: Match. No condition. -/
set_option linter.unusedVariables false
set_option linter.unusedSimpArgs false
open Go Go.Proofs Go.RowKit
namespace Qv
end Qv

end
