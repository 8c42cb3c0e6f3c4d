/- The door for the law that takes three queries and a byte. No condition. -/
import Derived.Test.YtpoefbbfhebakaaGreatDoorCU
import Derived.Test.YtpoefbbfhebakaaGreatDoorCk
set_option linter.unusedVariables false
set_option linter.unusedSimpArgs false
namespace Go.Proofs.YtpoefbbfhebakaaGreatDoor.door
open Go Qv Go.ChangeShapes Go.WideShapes Go.ChangeAt Go.RowKit
def cTypes : List TypeId := [3,5,9,22,24,43]
theorem c_fine : fineTs Tryz.prog cTypes = true := by kernel_rfl
theorem c_bytes : bytesFine Tryz.prog cTypes = true := by kernel_rfl
theorem arg_oneC {H : Type} {t : TypeId} {d : DataW H} {x : AV} (hm : t ∈ cTypes) (h : DArg Tryz.prog t d x) (hw : ∀ n,n ∈ d.weights Tryz.prog t → n ≤ reachBytes) :
 ∃ ys,DRep Tryz.prog t d ys ∧ x = avOf Tryz.prog t ys ∧ ∀ y,y ∈ ys → AV.Small (2 ^ 47) y := by
 obtain ⟨ys,h1,h2⟩ := h
 exact ⟨ys,h1,h2,h1.small c_fine c_bytes hm fun n hn => by have := hw n hn; unfold reachBytes at this; omega⟩
theorem und43 : Tryz.prog.underlying 43 = some (.array 3 24) := by kernel_rfl
theorem und5 : Tryz.prog.underlying 5 = some (.int .u8) := by kernel_rfl
theorem arg_a {H : Type} {d : DataW H} {x : AV} (h : DArg Tryz.prog 43 d x) (hw : ∀ n,n ∈ d.weights Tryz.prog 43 → n ≤ reachBytes) :
 ∃ a b c : Qy,x = .agg (encQy a ++ encQy b ++ encQy c) ∧ szQ a ∧ szQ b ∧ szQ c := by
 obtain ⟨ys,h1,h2,h3⟩ := arg_oneC (by decide) h hw
 have h4 : x = .agg ys := h2.trans (avOf_arr und43)
 clear h2 hw h
 obtain ⟨ds,ps,hd0,hys,hd,hp,he⟩ := DRep.arr_inv und43 h1
 subst hys
 match ds,ps,hd,hp with
 | [d0,d1,d2],[p0,p1,p2],_,_ =>
   obtain ⟨a,rfl⟩ := inv_query (he 0 _ _ rfl rfl)
   obtain ⟨b,rfl⟩ := inv_query (he 1 _ _ rfl rfl)
   obtain ⟨c,rfl⟩ := inv_query (he 2 _ _ rfl rfl)
   refine ⟨a,b,c,h4.trans (by simp),sz_query a fun y hy => h3 y (by simp [hy]),sz_query b fun y hy => h3 y (by simp [hy]),sz_query c fun y hy => h3 y (by simp [hy])⟩
theorem arg_u8C {H : Type} {d : DataW H} {x : AV} (h : DArg Tryz.prog 5 d x) : ∃ n : Nat,x = .int .u8 (n : Int) ∧ n < 256 := by
 obtain ⟨ys,h1,h2⟩ := h
 obtain ⟨n,rfl,hn⟩ := DRep.int_inv und5 h1
 have h3 : 0 ≤ n ∧ n ≤ 255 := by simpa [Lit.wf,IntKind.min,IntKind.max,IntKind.signed,IntKind.bits] using hn
 refine ⟨n.toNat,?_,by omega⟩
 rw [show ((n.toNat : Nat) : Int) = n by omega]
 exact h2.trans (avOf_one und5 (fun _ h => by cases h))
theorem binding_law_ok (a b c : Qy) (sa : szQ a) (sb : szQ b) (sc : szQ c) (wd : Nat) (hwd : wd < 256) : CallsTo C 13 [.agg (encQy a ++ encQy b ++ encQy c),.int .u8 wd] (fun r => r = .val (.bool true)) := by
 obtain ⟨ka,ta,na,la⟩ := a
 obtain ⟨kb,tb,nb,lb⟩ := b
 obtain ⟨kc,tc,nc,lc⟩ := c
 exact binding_walk ka kb kc ta tb tc na nb nc la lb lc sa sb sc wd hwd
theorem no_stand_allC : (cTypes.all fun t => !Tryz.pinned.checked.prog.wantsStandIn t) = true := by kernel_rfl
theorem no_standC (t : TypeId) (h : t ∈ cTypes) : Tryz.pinned.checked.prog.wantsStandIn t = false := by
 have := List.all_eq_true.1 no_stand_allC t h
 simpa using this
theorem of_mem_paramsC {l : Array TypeId} {j : Nat} {t : TypeId} (hl : (l.toList.all fun t => cTypes.contains t) = true) (h : l[j]? = some t) : t ∈ cTypes := by
 have := List.all_eq_true.1 hl t (by simpa using Array.mem_of_getElem? h)
 simpa using this
end Go.Proofs.YtpoefbbfhebakaaGreatDoor.door

