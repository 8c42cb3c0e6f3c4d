/- Part 24 of the proof: its lemmas. No condition. -/
import Derived.Test.YtiboombocnfngaaGreatDoorZ9
import Derived.Test.YtiboombocnfngaaGreatDoorZ12
set_option maxRecDepth 10000
set_option maxHeartbeats 80000000
set_option linter.all false
open Go Go.Proofs Go.RowKit
namespace Qv
end Qv
