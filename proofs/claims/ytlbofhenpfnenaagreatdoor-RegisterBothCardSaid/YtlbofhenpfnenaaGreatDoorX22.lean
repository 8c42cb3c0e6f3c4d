/- Part 29 of the proof: its lemmas. No condition. -/
import Derived.Test.YtlbofhenpfnenaaGreatDoorX14
set_option maxRecDepth 10000
set_option maxHeartbeats 80000000
set_option linter.all false
open Go Go.Proofs Go.RowKit
namespace Qv
theorem abF (file:bf)(type:Int)(parent:bf)(name:Bytes)(mode:Int)(data:Bytes)(dc dy:bf)(lines:List Bytes)(over:List bf)(hl:lines.length<=2^47)(ho:over.length<=2^47):aj C 214 [.agg (cC ⟨5,file,type,parent,name,mode,data,dc,dy,lines,over⟩)] (λr=>r=.val (.bool (bG (eE ⟨5,file,type,parent,name,mode,data,dc,dy,lines,over⟩)))):=by
 rw[show eE ⟨5,file,type,parent,name,mode,data,dc,dy,lines,over⟩=_ from rfl];unfold eE;simp only[Int.reduceEq,if_true,if_false];refine bn uO [] Tryz.func214 rfl rfl rfl ?_;refine⟨[3],bZ (cells:=[.p (.int .i64 5)]) (ys:=[.int .i64 5]) rfl rfl rfl ?_⟩;refine⟨none,?_⟩;refine cl (iz [1] 5 false dD dD).dL ?_;refine aD (λdY=>?_) (λdY=>?_);rotate_left;have dY:type≠0:=dY;show dh.val (.bool false)=_;simp[bG,dY];have dY:type=0:=dY;refine cl (iz [2,3,4,5,6] 5 true dD dD).dL ?_;refine cl (iz [2] 5 false dD dD).dL ?_;refine rB ?_;refine jK (a:=parent) (b:=aT) ?_;by_cases eF:parent=aT;rotate_left;rw[ak eF];show dh.val (.bool false)=_;simp[bG,eF];rw[av eF];refine aD (λdS=>?_) (λdS=>?_);rotate_left;have dS:name≠[]:=dS;show dh.val (.bool false)=_;simp[bG,dS];have dS:name=[]:=dS;refine cl (iz [3] 5 false dD dD).dL ?_;refine aD (λdU=>?_) (λdU=>?_);rotate_left;have dU:mode≠0:=dU;show dh.val (.bool false)=_;simp[bG,dU];have dU:mode=0:=dU;refine cl (iz [4] 5 false dD dD).dL ?_;refine aD (λdW=>?_) (λdW=>?_);rotate_left;have dW:data≠[]:=dW;show dh.val (.bool false)=_;simp[bG,dW];have dW:data=[]:=dW;refine cl (iz [5,6] 5 true dD dD).dL ?_;refine cl (iz [5] 5 true dD dD).dL ?_;refine cl (iz [2,3,4,6,7] 5 false dD dD).dL ?_;refine aD (λoU=>?_) (λoU=>?_);rotate_left;have oU:over≠[]:=λe=>oU (by rw[e];rfl);show dh.val (.bool false)=_;simp[bG,oU];have oU:over=[]:=by have h:(((over.map cI).length:Nat):Int)=0:=oU;rw[ai]at h;exact iO oO
 show dh.val (.bool true)=_;simp[bG,dY,eF,dS,dU,dW,oU]
end Qv
