/- The door for the law that takes lists of bools too. No condition. -/
import Derived.Test.YtpoefbbfhebakaaGreatDoorBU
import Derived.Test.YtpoefbbfhebakaaGreatDoorBa
set_option linter.unusedVariables false
set_option linter.unusedSimpArgs false
namespace Go.Proofs.YtpoefbbfhebakaaGreatDoor.door
open Go Qv Go.ChangeShapes Go.WideShapes Go.ChangeAt Go.RowKit
def bTypes : List TypeId := [3,4,9,22,24,39]
theorem b_fine : fineTs Tryz.prog bTypes = true := by kernel_rfl
theorem b_bytes : bytesFine Tryz.prog bTypes = true := by kernel_rfl
theorem arg_oneB {H : Type} {t : TypeId} {d : DataW H} {x : AV} (hm : t ∈ bTypes) (h : DArg Tryz.prog t d x) (hw : ∀ n,n ∈ d.weights Tryz.prog t → n ≤ reachBytes) :
 ∃ ys,DRep Tryz.prog t d ys ∧ x = avOf Tryz.prog t ys ∧ ∀ y,y ∈ ys → AV.Small (2 ^ 47) y := by
 obtain ⟨ys,h1,h2⟩ := h
 exact ⟨ys,h1,h2,h1.small b_fine b_bytes hm fun n hn => by have := hw n hn; unfold reachBytes at this; omega⟩
theorem arg_sB {H : Type} {d : DataW H} {x : AV} (h : DArg Tryz.prog 9 d x) (hw : ∀ n,n ∈ d.weights Tryz.prog 9 → n ≤ reachBytes) : ∃ a : List UInt8,x = .str a ∧ a.length ≤ 2 ^ 47 := by
 obtain ⟨ys,h1,h2,h3⟩ := arg_oneB (by decide) h hw
 obtain ⟨a,rfl⟩ := DRep.str_inv Tryz.underlying9 h1
 exact ⟨a,h2.trans (avOf_one Tryz.underlying9 (fun _ h => by cases h)),(h3 _ (by simp)).str_inv⟩
theorem arg_b {H : Type} {d : DataW H} {x : AV} (h : DArg Tryz.prog 39 d x) (hw : ∀ n,n ∈ d.weights Tryz.prog 39 → n ≤ reachBytes) : ∃ a : List Bool,x = encBools a ∧ a.length ≤ 2 ^ 47 := by
 obtain ⟨ys,h1,h2,h3⟩ := arg_oneB (by decide) h hw
 obtain ⟨a,rfl⟩ := DRep.slice_inv (enc := fun b => [AV.bool b]) Tryz.underlying39 (fun d x h => DRep.bool_inv Tryz.underlying4 h) h1
 have hl := (h3 _ (List.mem_singleton.2 rfl)).sl_inv.1
 rw [List.length_map] at hl
 exact ⟨a,h2.trans (avOf_one Tryz.underlying39 (fun _ h => by cases h)),hl⟩
theorem no_stand_allB : (bTypes.all fun t => !Tryz.pinned.checked.prog.wantsStandIn t) = true := by kernel_rfl
theorem no_standB (t : TypeId) (h : t ∈ bTypes) : Tryz.pinned.checked.prog.wantsStandIn t = false := by
 have := List.all_eq_true.1 no_stand_allB t h
 simpa using this
theorem of_mem_paramsB {l : Array TypeId} {j : Nat} {t : TypeId} (hl : (l.toList.all fun t => bTypes.contains t) = true) (h : l[j]? = some t) : t ∈ bTypes := by
 have := List.all_eq_true.1 hl t (by simpa using Array.mem_of_getElem? h)
 simpa using this
end Go.Proofs.YtpoefbbfhebakaaGreatDoor.door

