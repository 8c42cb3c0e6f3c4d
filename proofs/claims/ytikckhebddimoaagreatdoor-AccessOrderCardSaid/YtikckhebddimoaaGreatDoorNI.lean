/- The laws AccessParse, AccessAllowed, AccessPaths as contracts. No condition. -/
import Derived.Test.YtikckhebddimoaaGreatDoorNH
set_option linter.unusedVariables false
set_option linter.unusedSimpArgs false
open Go Go.Proofs Go.RowKit
namespace Qv
end Qv

