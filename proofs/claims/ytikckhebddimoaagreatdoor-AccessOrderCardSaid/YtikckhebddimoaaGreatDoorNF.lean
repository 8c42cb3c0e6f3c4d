/- Contracts: the reader of the reference. No condition. -/
import Derived.Test.YtikckhebddimoaaGreatDoorNE
set_option linter.unusedVariables false
set_option linter.unusedSimpArgs false
open Go Go.Proofs Go.RowKit
namespace Qv
end Qv

