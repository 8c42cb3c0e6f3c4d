/- The statement QuerylangErrors: what lies before a syntax error reads to its end. No condition. -/
import Derived.Test.YtpoefbbfhebakaaGreatDoorCT
import Derived.Test.YtpoefbbfhebakaaGreatDoorCN
set_option linter.unusedVariables false
set_option linter.unusedSimpArgs false
open Go Go.Proofs Go.RowKit
namespace Qv
theorem check_vq {q : Qy} (h : checkQ globB q = 0) : VQ q := by
 unfold checkQ at h
 split at h
 ·exact vq_of _ _ h
 ·cases h
end Qv

