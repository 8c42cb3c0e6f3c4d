/- Part 18 of the proof: its lemmas. No condition. -/
import Derived.Test.YtlbofhenpfnenaaGreatDoorX6
set_option maxRecDepth 10000
set_option maxHeartbeats 80000000
set_option linter.all false
namespace Go.Proofs.YtlbofhenpfnenaaGreatDoor.door
open Go Qv Go.ChangeShapes Go.WideShapes Go.ChangeAt Go.RowKit
theorem KI:(xO.all λt=>!Tryz.pinned.checked.prog.wantsStandIn t)=true:=by kernel_rfl
theorem MB (t:TypeId)(h:t∈xO):Tryz.pinned.checked.prog.wantsStandIn t=false:=by have :=List.all_eq_true.1 KI t h;simpa using this
theorem zT {l:Array TypeId}{j:Nat}{t:TypeId}(hl:(l.toList.all λt=>xO.contains t)=true)(h:l[j]?=some t):t∈xO:=by have :=List.all_eq_true.1 hl t (by simpa using Array.mem_of_getElem? h);simpa using this
end Go.Proofs.YtlbofhenpfnenaaGreatDoor.door
