/- The rows' own conditions, and a world for the witness. No condition. -/
import Derived.Test.YthkmombkgelcnaaGreatDoorCards
import Derived.Test.YthkmombkgelcnaaGreatDoorTie
import Derived.Test.YthkmombkgelcnaaGreatDoorS1
import Derived.ProofKit
import Derived.OpenShut
import Derived.Deep.DeepHandedRow
set_option linter.unusedVariables false
namespace Go.Proofs.YthkmombkgelcnaaGreatDoor.door
open Go Qv Go.ChangeShapes Go.WideShapes Go.ChangeAt Go.RowKit

theorem own : ownKnob Tryz.prog.godebug = none := by kernel_rfl
theorem gType : (Tryz.prog.globals[1]?).map (·.type) = some 129 := by kernel_rfl
theorem g5 : Tryz.prog.globalNamed "math/bits.deBruijn64tab" = some 5 := by kernel_rfl
theorem cells129 : Tryz.prog.cellsOf 129 = 20 := by kernel_rfl
theorem cells114 : Tryz.prog.cellsOf 114 = 1 := by kernel_rfl

def three : List (String × DataW Unit) := [("math/bits.deBruijn32tab", Rows.laid_math_bits_deBruijn32tab), ("math/bits.deBruijn64tab", Rows.laid_math_bits_deBruijn64tab), ("internal/strconv.uint64pow10", Rows.laid_internal_strconv_uint64pow10)]

/-- What the rows list gives what the contracts lean on. -/
theorem listed {W : World} (h : laidMetH Tryz.prog three W) : tabJ W ∧ 6 ≤ W.heap.size := by
  have h' : laidMet Tryz.prog three W := h
  refine ⟨tab_mem glob_pow10 gType Tryz.underlying129 Tryz.underlying114 cells114 cells129 h' (.tail _ (.tail _ (.head _))), ?_⟩
  exact laid_lt g5 h' (.tail _ (.head _))

def cellsOfTab (k : IntKind) : DataW Unit → Array Value
  | .agg l => (l.map fun d => match d with | .lit (.int _ n) => Value.int k n | _ => undef).toArray
  | _ => #[]

def lay (c : Array Value) : Obj → Obj
  | .cells _ t frozen => .cells c t frozen
  | o => o

/-- A world for the witness: the settled one, the listed variables holding what their initialisers lay. -/
noncomputable def laidWorld (os : Os) : World :=
  { World.holding Tryz.prog os ⟨#[], #[], []⟩ with
    heap := (((World.holding Tryz.prog os ⟨#[], #[], []⟩).heap.modify 1 (lay (cellsOfTab .u64 Rows.laid_internal_strconv_uint64pow10))).modify 4 (lay (cellsOfTab .u8 Rows.laid_math_bits_deBruijn32tab))).modify 5 (lay (cellsOfTab .u8 Rows.laid_math_bits_deBruijn64tab)) }

theorem no_stand_all : (uTypes.all fun t => !Tryz.pinned.checked.prog.wantsStandIn t) = true := by kernel_rfl
theorem no_stand (t : TypeId) (h : t ∈ uTypes) : Tryz.pinned.checked.prog.wantsStandIn t = false := by
  have := List.all_eq_true.1 no_stand_all t h
  simpa using this
theorem of_mem_params {l : Array TypeId} {j : Nat} {t : TypeId} (hl : (l.toList.all fun t => uTypes.contains t) = true) (h : l[j]? = some t) : t ∈ uTypes := by
  have := List.all_eq_true.1 hl t (by simpa using Array.mem_of_getElem? h)
  simpa using this

end Go.Proofs.YthkmombkgelcnaaGreatDoor.door
