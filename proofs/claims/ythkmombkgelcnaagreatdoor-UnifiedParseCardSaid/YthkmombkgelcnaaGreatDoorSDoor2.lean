/- The conditions of the rows that list the two errors of strconv too, and a world for their witness. No condition. -/
import Derived.Test.YthkmombkgelcnaaGreatDoorSDoor
import Derived.Test.YthkmombkgelcnaaGreatDoorS6
import Derived.Test.YthkmombkgelcnaaGreatDoorSB
import Derived.Stop.LaidErr
import Derived.Deep.DeepWitnessRowRef
import Derived.Shelf.Vars
set_option linter.unusedVariables false
namespace Go.Proofs.YthkmombkgelcnaaGreatDoor.door
open Go Qv Go.ChangeShapes Go.WideShapes Go.ChangeAt Go.RowKit

def five : List (String × DataW Unit) := [("math/bits.deBruijn32tab", Rows.laid_math_bits_deBruijn32tab), ("math/bits.deBruijn64tab", Rows.laid_math_bits_deBruijn64tab), ("internal/strconv.uint64pow10", Rows.laid_internal_strconv_uint64pow10), ("strconv.ErrRange", Rows.laid_strconv_ErrRange), ("strconv.ErrSyntax", Rows.laid_strconv_ErrSyntax)]

theorem star : "*" ++ "errors.errorString" = "*errors.errorString" := by decide
theorem row140 (u : TypeId) (h : Tryz.prog.typeName? 3 u = some "*errors.errorString") : u = 140 :=
  typeName_ptr_named (nm := "errors.errorString") (by rw [star]; kernel_rfl) (by kernel_rfl) (by decide) u (by rw [star]; exact h)

theorem und140 : Tryz.prog.underlying 140 = some (.pointer 142) := by kernel_rfl

theorem listed5 {W : World} (h : laidMetH Tryz.prog five W) (hS : W.ShapedOpen Tryz.prog) : strJ W ∧ 6 ≤ W.heap.size := by
  have h' : laidMet Tryz.prog five W := h
  obtain ⟨a1, s1, hv1, -⟩ := laid_sentinel (g := 3) h'.tail.tail.tail (by kernel_rfl) (by kernel_rfl) Tryz.underlying72 row140 und140 Tryz.underlying142 rfl rfl Tryz.underlying9 (by kernel_rfl) (by kernel_rfl)
  obtain ⟨a2, s2, hv2, -⟩ := laid_sentinel (g := 2) h'.tail.tail.tail.tail (by kernel_rfl) (by kernel_rfl) Tryz.underlying72 row140 und140 Tryz.underlying142 rfl rfl Tryz.underlying9 (by kernel_rfl) (by kernel_rfl)
  refine ⟨⟨tab_mem glob_pow10 gType Tryz.underlying129 Tryz.underlying114 cells114 cells129 h' (.tail _ (.tail _ (.head _))), ?_, ⟨_, _, hv2⟩, ⟨_, _, hv1⟩⟩, ?_⟩
  · exact Go.Proofs.cell_of_shapedOpen_int (zero := #[.int .i64 0]) (t := 3) hS (of_decide_eq_true (by kernel_rfl)) (by kernel_rfl) rfl (by kernel_rfl) (by kernel_rfl) Tryz.underlying3
  · exact laid_lt g5 h' (.tail _ (.head _))

/-- A world for the witness: the settled one with two blocks more, the listed variables holding what their initialisers lay. -/
noncomputable def laidWorld5 (os : Os) : World :=
  let N := (World.settled Tryz.prog os).heap.size
  let w0 := World.holding Tryz.prog os ⟨#[.cells #[.string ⟨#[118, 97, 108, 117, 101, 32, 111, 117, 116, 32, 111, 102, 32, 114, 97, 110, 103, 101]⟩] 142, .cells #[.string ⟨#[105, 110, 118, 97, 108, 105, 100, 32, 115, 121, 110, 116, 97, 120]⟩] 142], #[], []⟩
  { w0 with
    heap := ((((w0.heap.modify 1 (lay (cellsOfTab .u64 Rows.laid_internal_strconv_uint64pow10))).modify 4 (lay (cellsOfTab .u8 Rows.laid_math_bits_deBruijn32tab))).modify 5 (lay (cellsOfTab .u8 Rows.laid_math_bits_deBruijn64tab))).modify 3 (lay #[.iface 140 (.pointer (some ⟨N, 0, none⟩))])).modify 2 (lay #[.iface 140 (.pointer (some ⟨N + 1, 0, none⟩))]) }

theorem five_met (os : Os) (args : Array Value) : laidMet Tryz.prog five ((laidWorld5 os).forCall (fun _ _ => 0) ⟨#[], args, []⟩).memory :=
  laidMet_of_run' 8 (by kernel_rfl) (by kernel_rfl)

end Go.Proofs.YthkmombkgelcnaaGreatDoor.door
