/- The rows' own conditions, and a world for the witness. No condition. -/
import Derived.Test.YtpoefbbfhebakaaGreatDoorCards
import Derived.Test.YtpoefbbfhebakaaGreatDoorTie
import Derived.Test.YtpoefbbfhebakaaGreatDoorFD
import Derived.Test.YtpoefbbfhebakaaGreatDoorFE
import Derived.ProofKit
import Derived.OpenShut
import Derived.Deep.DeepHandedRow
import Derived.Shelf.Vars
set_option linter.unusedVariables false
set_option linter.unusedSimpArgs false
namespace Go.Proofs.YtpoefbbfhebakaaGreatDoor.door
open Go Qv Go.ChangeShapes Go.WideShapes Go.ChangeAt Go.RowKit
theorem own : ownKnob Tryz.prog.godebug = none := by kernel_rfl
theorem g2 : Tryz.prog.globalNamed "unicode/utf8.acceptRanges" = some 2 := by kernel_rfl
def two : List (String × DataW Unit) := [("unicode/utf8.acceptRanges", Rows.laid_unicode_utf8_acceptRanges), ("unicode/utf8.first", Rows.laid_unicode_utf8_first)]
theorem listed {W : World} (h : laidMetH Tryz.prog two W) (hS : W.ShapedOpen Tryz.prog) : qryJ W ∧ 4 ≤ W.heap.size := by
 have hc : ∃ m,W.cell? ⟨3,0,none⟩ = some (.int .i64 m) := Go.Proofs.cell_of_shapedOpen_int (zero := #[.int .i64 0]) (t := 3) hS (of_decide_eq_true (by kernel_rfl)) (by kernel_rfl) rfl (by kernel_rfl) (by kernel_rfl) Tryz.underlying3
 refine ⟨⟨trivial,hc,trivial⟩,?_⟩
 obtain ⟨m,hm⟩ := hc
 apply Classical.byContradiction
 intro hn
 have : W.heap[3]? = none := Array.getElem?_eq_none (by omega)
 simp [World.cell?,this] at hm
def flat1 : DataW Unit → List Value
 | .lit (.int k n) => [Value.int k n]
 | _ => [undef]
def flat2 : DataW Unit → List Value
 | .agg l => l.flatMap flat1
 | d => flat1 d
def cellsOf2 : DataW Unit → Array Value
 | .agg l => (l.flatMap flat2).toArray
 | _ => #[]
def lay (c : Array Value) : Obj → Obj
 | .cells _ t frozen => .cells c t frozen
 | o => o
noncomputable def laidWorld (os : Os) : World :=
 { World.holding Tryz.prog os ⟨#[],#[],[]⟩ with
   heap := ((World.holding Tryz.prog os ⟨#[],#[],[]⟩).heap.modify 1 (lay (cellsOf2 Rows.laid_unicode_utf8_first))).modify 2 (lay (cellsOf2 Rows.laid_unicode_utf8_acceptRanges)) }
theorem two_met (os : Os) (args : Array Value) : laidMet Tryz.prog two ((laidWorld os).forCall (fun _ _ => 0) ⟨#[],args,[]⟩).memory :=
 laidMet_of_run' 8 (by kernel_rfl) (by kernel_rfl)
theorem no_stand_all : (aTypes.all fun t => !Tryz.pinned.checked.prog.wantsStandIn t) = true := by kernel_rfl
theorem no_stand (t : TypeId) (h : t ∈ aTypes) : Tryz.pinned.checked.prog.wantsStandIn t = false := by
 have := List.all_eq_true.1 no_stand_all t h
 simpa using this
theorem of_mem_params {l : Array TypeId} {j : Nat} {t : TypeId} (hl : (l.toList.all fun t => aTypes.contains t) = true) (h : l[j]? = some t) : t ∈ aTypes := by
 have := List.all_eq_true.1 hl t (by simpa using Array.mem_of_getElem? h)
 simpa using this
end Go.Proofs.YtpoefbbfhebakaaGreatDoor.door

