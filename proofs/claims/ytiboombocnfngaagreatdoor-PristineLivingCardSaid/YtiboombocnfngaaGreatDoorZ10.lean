/- Part 16 of the proof: its lemmas. No condition. -/
import Derived.Test.YtiboombocnfngaaGreatDoorZ1
import Derived.Test.YtiboombocnfngaaGreatDoorZ3
import Derived.Test.YtiboombocnfngaaGreatDoorZ7
import Derived.Test.YtiboombocnfngaaGreatDoorZ8
set_option maxRecDepth 10000
set_option maxHeartbeats 80000000
set_option linter.all false
open Go Go.Proofs Go.RowKit
namespace Qv
section
variable (A:iA->List bO)
def adD (s:List fk):Prop:=∀x,x∈s->au C 93 [.agg (cP x.pat)] (λr=>r=.own (some [.int .i64 0]) 109 172 (kB (A x.pat)))
end
end Qv
