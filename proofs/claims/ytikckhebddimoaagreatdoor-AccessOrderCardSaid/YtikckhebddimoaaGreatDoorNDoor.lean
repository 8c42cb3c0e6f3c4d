/- The rows' own conditions, and a world for the witness. No condition. -/
import Derived.Test.YtikckhebddimoaaGreatDoorCards
import Derived.Test.YtikckhebddimoaaGreatDoorTie
import Derived.Test.YtikckhebddimoaaGreatDoorNArgs
import Derived.ProofKit
import Derived.OpenShut
import Derived.Deep.DeepHandedRow
import Derived.Stop.LaidErr
import Derived.Deep.DeepWitnessRowRef
import Derived.Shelf.Vars
set_option linter.unusedVariables false
namespace Go.Proofs.YtikckhebddimoaaGreatDoor.door
open Go Qv Go.ChangeShapes Go.WideShapes Go.ChangeAt Go.RowKit
theorem own : ownKnob Tryz.prog.godebug = none := by kernel_rfl
theorem gType : (Tryz.prog.globals[1]?).map (·.type) = some 196 := by kernel_rfl
theorem g7 : Tryz.prog.globalNamed "math/bits.deBruijn64tab" = some 7 := by kernel_rfl
theorem cells196 : Tryz.prog.cellsOf 196 = 20 := by kernel_rfl
theorem cells172 : Tryz.prog.cellsOf 172 = 1 := by kernel_rfl
def seven : List (String × DataW Unit) := [("math/bits.deBruijn32tab", Rows.laid_math_bits_deBruijn32tab), ("math/bits.deBruijn64tab", Rows.laid_math_bits_deBruijn64tab), ("internal/strconv.uint64pow10", Rows.laid_internal_strconv_uint64pow10), ("unicode/utf8.acceptRanges", Rows.laid_unicode_utf8_acceptRanges), ("strconv.ErrRange", Rows.laid_strconv_ErrRange), ("strconv.ErrSyntax", Rows.laid_strconv_ErrSyntax), ("unicode/utf8.first", Rows.laid_unicode_utf8_first)]
theorem star : "*" ++ "errors.errorString" = "*errors.errorString" := by decide
theorem row221 (u : TypeId) (h : Tryz.prog.typeName? 3 u = some "*errors.errorString") : u = 221 :=
  typeName_ptr_named (nm := "errors.errorString") (by rw [star]; kernel_rfl) (by kernel_rfl) (by decide) u (by rw [star]; exact h)
theorem und221 : Tryz.prog.underlying 221 = some (.pointer 223) := by kernel_rfl
theorem listed {W : World} (h : laidMetH Tryz.prog seven W) (hS : W.ShapedOpen Tryz.prog) : accJ W ∧ 8 ≤ W.heap.size := by
  have h' : laidMet Tryz.prog seven W := h
  obtain ⟨a1, s1, hv1, -⟩ := laid_sentinel (g := 5) h'.tail.tail.tail.tail (by kernel_rfl) (by kernel_rfl) Tryz.underlying126 row221 und221 Tryz.underlying223 rfl rfl Tryz.underlying9 (by kernel_rfl) (by kernel_rfl)
  obtain ⟨a2, s2, hv2, -⟩ := laid_sentinel (g := 4) h'.tail.tail.tail.tail.tail (by kernel_rfl) (by kernel_rfl) Tryz.underlying126 row221 und221 Tryz.underlying223 rfl rfl Tryz.underlying9 (by kernel_rfl) (by kernel_rfl)
  refine ⟨⟨tab_mem glob_pow10 gType Tryz.underlying196 Tryz.underlying172 cells172 cells196 h' (.tail _ (.tail _ (.head _))), ?_, ⟨_, _, hv2⟩, ⟨_, _, hv1⟩⟩, ?_⟩
  · exact Go.Proofs.cell_of_shapedOpen_int (zero := #[.int .i64 0]) (t := 3) hS (of_decide_eq_true (by kernel_rfl)) (by kernel_rfl) rfl (by kernel_rfl) (by kernel_rfl) Tryz.underlying3
  · exact laid_lt g7 h' (.tail _ (.head _))
def flat1 : DataW Unit → List Value
  | .lit (.int k n) => [Value.int k n]
  | _ => [undef]
def flat2 : DataW Unit → List Value
  | .agg l => l.flatMap flat1
  | d => flat1 d
def cellsOf2 : DataW Unit → Array Value
  | .agg l => (l.flatMap flat2).toArray
  | _ => #[]
def lay (c : Array Value) : Obj → Obj
  | .cells _ t frozen => .cells c t frozen
  | o => o
noncomputable def laidWorld (os : Os) : World :=
  let N := (World.settled Tryz.prog os).heap.size
  let w0 := World.holding Tryz.prog os ⟨#[.cells #[.string ⟨#[118, 97, 108, 117, 101, 32, 111, 117, 116, 32, 111, 102, 32, 114, 97, 110, 103, 101]⟩] 223, .cells #[.string ⟨#[105, 110, 118, 97, 108, 105, 100, 32, 115, 121, 110, 116, 97, 120]⟩] 223], #[], []⟩
  { w0 with
    heap := (((((((w0.heap.modify 1 (lay (cellsOf2 Rows.laid_internal_strconv_uint64pow10))).modify 2 (lay (cellsOf2 Rows.laid_unicode_utf8_first))).modify 3 (lay (cellsOf2 Rows.laid_unicode_utf8_acceptRanges))).modify 6 (lay (cellsOf2 Rows.laid_math_bits_deBruijn32tab))).modify 7 (lay (cellsOf2 Rows.laid_math_bits_deBruijn64tab))).modify 5 (lay #[.iface 221 (.pointer (some ⟨N, 0, none⟩))])).modify 4 (lay #[.iface 221 (.pointer (some ⟨N + 1, 0, none⟩))])) }
theorem seven_met (os : Os) (args : Array Value) : laidMet Tryz.prog seven ((laidWorld os).forCall (fun _ _ => 0) ⟨#[], args, []⟩).memory :=
  laidMet_of_run' 8 (by kernel_rfl) (by kernel_rfl)
theorem no_stand_all : (aTypes.all fun t => !Tryz.pinned.checked.prog.wantsStandIn t) = true := by kernel_rfl
theorem no_stand (t : TypeId) (h : t ∈ aTypes) : Tryz.pinned.checked.prog.wantsStandIn t = false := by
  have := List.all_eq_true.1 no_stand_all t h
  simpa using this
theorem of_mem_params {l : Array TypeId} {j : Nat} {t : TypeId} (hl : (l.toList.all fun t => aTypes.contains t) = true) (h : l[j]? = some t) : t ∈ aTypes := by
  have := List.all_eq_true.1 hl t (by simpa using Array.mem_of_getElem? h)
  simpa using this
end Go.Proofs.YtikckhebddimoaaGreatDoor.door

