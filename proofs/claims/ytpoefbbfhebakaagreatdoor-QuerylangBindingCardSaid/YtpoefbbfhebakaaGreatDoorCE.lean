/- Several texts in one: Which functions a function comes to, reckoned with masks over a table and what follows. No condition. -/
import Derived.JoinedCond
import Derived.Test.YtpoefbbfhebakaaGreatDoorCards
import Derived.KernelRfl
set_option linter.unusedVariables false
set_option linter.unusedSimpArgs false

section
namespace Qv
open Go
def closeT (T : List (List Nat)) : Nat → List Nat → List Nat → List Nat
 | 0,_,seen => seen.reverse
 | _,[],seen => seen.reverse
 | n + 1,f :: todo,seen => if seen.contains f then closeT T n todo seen else closeT T n ((T[f]?).getD [] ++ todo) (f :: seen)
theorem leads_at {P : Program} {T : List (List Nat)} (hT : P.funcs.toList.map P.leadsTo = T) (f : Nat) : (P.funcs[f]?).elim [] P.leadsTo = (T[f]?).getD [] := by
 subst hT
 rw [List.getElem?_map,← Array.getElem?_toList]
 cases P.funcs.toList[f]? <;> rfl
theorem closeT_eq {P : Program} {T : List (List Nat)} (hT : P.funcs.toList.map P.leadsTo = T) : ∀ (n : Nat) (todo seen : List Nat),P.closureVia n todo seen = closeT T n todo seen
 | 0,todo,seen => by cases todo <;> rfl
 | n + 1,[],seen => rfl
 | n + 1,f :: todo,seen => by
   show (if seen.contains f then P.closureVia n todo seen else P.closureVia n ((P.funcs[f]?).elim [] P.leadsTo ++ todo) (f :: seen)) = if seen.contains f then closeT T n todo seen else closeT T n ((T[f]?).getD [] ++ todo) (f :: seen)
   rw [closeT_eq hT n,closeT_eq hT n,leads_at hT]
def closeM (T : List (List Nat)) : Nat → List Nat → List Nat → Nat → List Nat
 | 0,_,seen,_ => seen.reverse
 | _ + 1,[],seen,_ => seen.reverse
 | n + 1,f :: todo,seen,m => match Nat.testBit m f with
   | true => closeM T n todo seen m
   | false => closeM T n ((T[f]?).getD [] ++ todo) (f :: seen) (m ||| 2 ^ f)
theorem closeM_eq (T : List (List Nat)) : ∀ (n : Nat) (todo seen : List Nat) (m : Nat),(∀ f,Nat.testBit m f = seen.contains f) → closeM T n todo seen m = closeT T n todo seen
 | 0,todo,seen,m,_ => by cases todo <;> rfl
 | n + 1,[],seen,m,_ => rfl
 | n + 1,f :: todo,seen,m,h => by
   have hf := h f
   unfold closeM closeT
   cases hb : Nat.testBit m f with
   | true =>
     rw [hb] at hf
     rw [if_pos hf.symm]
     exact closeM_eq T n todo seen m h
   | false =>
     rw [hb] at hf
     rw [if_neg (by rw [← hf]; simp)]
     refine closeM_eq T n _ (f :: seen) _ fun g => ?_
     rw [Nat.testBit_or,Nat.testBit_two_pow,h g,List.contains_cons]
     by_cases hg : f = g
     ·subst hg; simp
     ·have : ¬ g = f := fun e => hg e.symm
      simp [hg,this]
theorem closure_of {P : Program} {T : List (List Nat)} (f : Nat) (L : List Nat) (hT : P.funcs.toList.map P.leadsTo = T) (h : closeM T (1 + (T.map fun l => l.length + 1).sum) [f] [] 0 = L) : P.closure f = L := by
 unfold Program.closure
 have e : (P.funcs.toList.map fun g => (P.leadsTo g).length + 1) = T.map fun l => l.length + 1 := by
  rw [← hT,List.map_map]; rfl
 rw [e,closeT_eq hT,← closeM_eq T _ [f] [] 0 (fun g => by simp)]
 exact h
end Qv

end

section
namespace Go.Proofs.YtpoefbbfhebakaaGreatDoor.door
open Go Qv
def leadsT : List (List Nat) := [[],[],[1],[15,16,17,18,19,16],[15,16,20,21,20,20,16],[15,16,17,22,16,17,17,22,23,24,19,22,19,16],[15,16,25,26,19,27,28,16],[15,16,25,22,27,16,25,22,23,27,27,29,29,19,16],
 [30,31,32,33,22,23,29,34,31],[31,35,36,19,31],[30,31,32,22,29,31,35,19,22,29,31],[31,35,19,31,32,35,19,22,31],[31,37,35,35,35,19,19,38,31],[30,31,32,31,39,35,22,19,31],[31,35,31,31,35,31],[40,30],
 [41,42,43,17,25,25,19,19,20],[22,44,22],[23,45,23],[19],[22,22,46],[23,23,47,47],[48,49],[50,51],
 [40,52],[22,54,53],[23,55],[22,56,57],[23,58],[22,48],[50,59],[35,32,35,29],
 [22,60],[23,61],[23,50],[62,22],[63,64,23],[],[66,65,67,69,68,71,70],[],
 [72],[],[],[],[44,44,44,73,44,73,73],[45,45,45,74,45,75,75],[76,76],[77,77,47,47,47,47,47,47,47,47,78],
 [48],[79,49],[50],[80,51],[24],[53],[82,81,83,82,81,84,81,85,84,86,87,86,88,86,89,90,81,46,82,81,83,82,81,84,90,81,91,81,85,84,86,88,86,87,86,93,94,95,96,97,97,98,98],[55,99,100,101,102],
 [103],[],[104,58],[59],[105,106,107,108,109,60,109,60,60],[110,111,112,113,114,61,61,61],[115,116,117],[118,64,119,110,110,118],
 [],[],[],[],[120],[120],[121,122],[123,122],
 [],[],[],[],[92,92,76,76,76,76,76,76,76,76,124,124,125,124,126,124,127,124,127],[128],[129,129,130],[105,107,109,131,132],
 [111,113,133,134,135],[136],[137],[],[],[138,85],[139],[],
 [],[],[140],[92,92],[85],[],[],[],
 [],[141,81,83,143,81,84],[144],[],[128,146,47,47,147,147],[77,77,128,146,147,147],[],[56],
 [],[],[148,149],[],[150],[],[],[],
 [],[],[114,114],[],[151,152,153],[155,154],[63,156],[157],
 [],[158],[159],[160,121],[],[161,161],[162,162,163],[],
 [128],[],[164,164,165],[162],[38],[],[164],[],
 [],[],[],[124,125],[],[142],[85,85],[142],
 [145],[166],[129,129],[128,128],[],[168,167],[169],[170,171,171],
 [],[152,172,108],[173],[174,154],[64,63,64,175,119,176,175,111,177,113,178,133,156],[],[],[179,180,179,181,182],
 [],[183],[184,185],[186,186,187,187],[188,189],[190],[],[191,192],
 [193],[194,195,196,197],[],[198],[199,200],[116],[116,117,116,109,116,201],[],
 [110],[64,175,175,175],[64,119,175,175],[202],[],[],[],[],
 [203],[204,205,206,207],[],[208],[],[209,210],[],[211],
 [212,213,191,214],[215,216],[],[218,217,219],[],[220,221],[222],[223],
 [224,225,226,227],[109,174,105,228,107,228],[229],[230,231,232],[],[233,233,206,233,233,206,234,235],[],[],
 [],[210,210],[],[],[236],[237],[239,238],[240],
 [241],[],[],[],[],[242,243],[],[244],
 [245],[245],[245,108,246],[245,108,246],[116],[],[247,121],[247,248,232],
 [249],[],[],[],[250,251,252,253,254],[255,250,256,257,252],[],[],
 [161,258],[241,241,241,241,241],[],[],[259,259,259,259,259,259,260],[],[],[],
 [],[202,182,202,181,182,261],[],[],[],[],[262,251,263,264,251,265,266,265,264,256,252,253],[],
 [],[267,251,268,268],[],[],[259,259,259,259,259,259],[269],[],[],
 [],[],[],[],[],[],[],[],
 [],[],[],[],[],[],[],[],
 [],[],[],[],[],[],[],[289,290,291,291,291,170],
 [296,289],[],[198,292],[198],[293],[],[295],[296,297],
 [],[161],[],[296],[231],[296],[],[],
 [],[],[],[],[],[168,167],[198],[],
 [],[],[],[],[],[],[],[],
 [],[],[246,246]]
theorem leadsT_ok : Tryz.prog.funcs.toList.map Tryz.prog.leadsTo = leadsT := by kernel_rfl
theorem band {a b : Bool} (ha : a = true) (hb : b = true) : (a && b) = true := by rw [ha,hb]; rfl
theorem p_maps : mapsRowed Tryz.prog = true := by kernel_rfl
theorem p_heard : Tryz.prog.stopsHeard = true := by kernel_rfl
theorem p_enter : Tryz.prog.mayEnter = true := by kernel_rfl
end Go.Proofs.YtpoefbbfhebakaaGreatDoor.door

end
