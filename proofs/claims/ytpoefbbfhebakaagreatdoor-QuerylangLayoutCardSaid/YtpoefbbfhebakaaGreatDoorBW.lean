/- The statement QuerylangErrors: what lies before a syntax error reads to its end. No condition. -/
import Derived.Test.YtpoefbbfhebakaaGreatDoorBT
import Derived.Test.YtpoefbbfhebakaaGreatDoorBN
set_option linter.unusedVariables false
set_option linter.unusedSimpArgs false
open Go Go.Proofs Go.RowKit
namespace Qv
end Qv

