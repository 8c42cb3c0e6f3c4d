/- Part 16 of the proof: its lemmas. No condition. -/
import Derived.Test.YtiboombocnfngaaGreatDoorX1
import Derived.Test.YtiboombocnfngaaGreatDoorX3
import Derived.Test.YtiboombocnfngaaGreatDoorX7
import Derived.Test.YtiboombocnfngaaGreatDoorX8
set_option maxRecDepth 10000
set_option maxHeartbeats 80000000
set_option linter.all false
open Go Go.Proofs Go.RowKit
namespace Qv
section
variable (A:gr->List bR)
def ae3 (s:List fD):Prop:=∀x,x∈s->av C 93 [.agg (cP x.pat)] (λr=>r=.own (some [.int .i64 0]) 109 172 (gI (A x.pat)))
end
end Qv
