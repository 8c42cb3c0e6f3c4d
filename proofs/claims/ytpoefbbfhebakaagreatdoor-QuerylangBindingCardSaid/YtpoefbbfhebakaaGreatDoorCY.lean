/- The statement QuerylangRoundTrip: a printed query is read back. No condition. -/
import Derived.Test.YtpoefbbfhebakaaGreatDoorCT
import Derived.Test.YtpoefbbfhebakaaGreatDoorCW
import Derived.Test.YtpoefbbfhebakaaGreatDoorCX
import Derived.Lib.ItoaLen
set_option linter.unusedVariables false
set_option linter.unusedSimpArgs false
open Go Go.Proofs Go.RowKit
namespace Qv
theorem wordB_len (k : Nat) : (wordB k).length ≤ 7 := by
 match k with
 | 0 | 1 | 2 | 3 | 4 | 5 | 6 | 7 | 8 | 9 | 10 | 11 | 12 | 13 => decide
 | k + 14 => exact Nat.zero_le _
end Qv

