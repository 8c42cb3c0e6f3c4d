/- Several texts in one: The language of queries in plain terms: the printed text of what is read is not much longer than the text that was read and what follows. No condition. -/
import Derived.Test.YtpoefbbfhebakaaGreatDoorCX
import Derived.Test.YtpoefbbfhebakaaGreatDoorCN
import Derived.Lib.ItoaLen
import Derived.Test.YtpoefbbfhebakaaGreatDoorCY
set_option linter.unusedVariables false
set_option linter.unusedSimpArgs false

section
open Go Go.RowKit
namespace Qv
section
variable {α : Type}
def Md.w : Md → Nat
 | .andL q => (textQ q).length
 | .orL q => (textQ q).length
 | _ => 0
end
end Qv

end

section
open Go Go.Proofs Go.RowKit
namespace Qv
end Qv

end
