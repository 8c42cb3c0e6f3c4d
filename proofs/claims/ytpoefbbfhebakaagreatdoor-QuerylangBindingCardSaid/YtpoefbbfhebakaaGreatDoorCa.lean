/- The statement QuerylangLayout: blanks around a text and parentheses around it change nothing. No condition. -/
import Derived.Test.YtpoefbbfhebakaaGreatDoorCZ
import Derived.Test.YtpoefbbfhebakaaGreatDoorCX
set_option linter.unusedVariables false
set_option linter.unusedSimpArgs false
open Go Go.Proofs Go.RowKit
namespace Qv
end Qv

