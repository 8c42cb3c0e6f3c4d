/- Several texts in one: Contract of the reference's glob: component1, Contract of the reference's glob: after, Contract of the reference's glob: Match. No condition. -/
import Derived.Test.YtikckhebddimoaaGreatDoorL7

section
/- Contract of the reference's glob: component1. No condition. -/
set_option linter.unusedVariables false
set_option linter.unusedSimpArgs false
open Go Go.Proofs Go.RowKit
namespace Qv
end Qv

end

section
/- Contract of the reference's glob: after. No condition. -/
set_option linter.unusedVariables false
set_option linter.unusedSimpArgs false
open Go Go.Proofs Go.RowKit
namespace Qv
end Qv

end

section
/- Contract of the reference's glob: Match. No condition. -/
set_option linter.unusedVariables false
set_option linter.unusedSimpArgs false
open Go Go.Proofs Go.RowKit
namespace Qv
end Qv

end
