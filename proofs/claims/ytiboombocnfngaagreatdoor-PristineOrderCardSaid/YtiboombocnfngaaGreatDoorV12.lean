/- Part 18 of the proof: its lemmas. No condition. -/
import Derived.Test.YtiboombocnfngaaGreatDoorV1
import Derived.Test.YtiboombocnfngaaGreatDoorV3
import Derived.Test.YtiboombocnfngaaGreatDoorV4
import Derived.Test.YtiboombocnfngaaGreatDoorV5
import Derived.Test.YtiboombocnfngaaGreatDoorV7
import Derived.Test.YtiboombocnfngaaGreatDoorV10
set_option maxRecDepth 10000
set_option maxHeartbeats 80000000
set_option linter.all false
open Go Go.Proofs Go.RowKit
namespace Qv
theorem aaN (file:bV)(type:Int)(parent:bV)(name:Bytes)(mode:Int)(data:Bytes)(cS cZ:bV)(lines:List Bytes)(over:List bV)(hl:lines.length<=2^47)(ho:over.length<=2^47):aq C 295 [.agg (cC ⟨1,file,type,parent,name,mode,data,cS,cZ,lines,over⟩)] (λr=>r=.val (.bool (bB (eC ⟨1,file,type,parent,name,mode,data,cS,cZ,lines,over⟩)))):=by
 rw[show eC ⟨1,file,type,parent,name,mode,data,cS,cZ,lines,over⟩=_ from rfl];unfold eC;simp only[Int.reduceEq,if_true,if_false];refine aY qu [] Tryz.func295 rfl rfl rfl ?_;refine⟨[3],dy (cells:=[.p (.int .i64 1)]) (ys:=[.int .i64 1]) rfl rfl rfl ?_⟩;refine⟨none,?_⟩;refine cl (iB [1] 1 true dD dD).dz ?_;refine cl (iB [2,3,4,5,6] 1 false dD dD).dz ?_;refine qT ?_;refine jC (a:=file) (b:=aS) ?_;by_cases xk:file=aS;rotate_left;rw[ak xk];show dx.val (.bool false)=_;simp[bB,xk];rw[an xk];refine cl (iB [2] 1 false dD dD).dz ?_;refine qT ?_;refine jC (a:=parent) (b:=aS) ?_;by_cases eU:parent=aS;rotate_left;rw[ak eU];show dx.val (.bool false)=_;simp[bB,eU];rw[an eU];refine aB (λek=>?_) (λek=>?_);rotate_left;have ek:name≠[]:=ek;show dx.val (.bool false)=_;simp[bB,ek];have ek:name=[]:=ek;refine cl (iB [3] 1 false dD dD).dz ?_;refine aB (λen=>?_) (λen=>?_);rotate_left;have en:mode≠0:=en;show dx.val (.bool false)=_;simp[bB,en];have en:mode=0:=en;refine cl (iB [4] 1 false dD dD).dz ?_;refine aB (λeo=>?_) (λeo=>?_);rotate_left;have eo:data≠[]:=eo;show dx.val (.bool false)=_;simp[bB,eo];have eo:data=[]:=eo;refine cl (iB [5,6] 1 false dD dD).dz ?_;refine qT ?_;refine jC (a:=cS) (b:=aS) ?_;by_cases mZ:cS=aS;rotate_left;rw[ak mZ];show dx.val (.bool false)=_;simp[bB,mZ];rw[an mZ];refine qT ?_;refine jC (a:=cZ) (b:=aS) ?_;by_cases nc:cZ=aS;rotate_left;rw[ak nc];show dx.val (.bool false)=_;simp[bB,nc];rw[an nc];refine cl (iB [5] 1 false dD dD).dz ?_;refine aB (λdh=>?_) (λdh=>?_);rotate_left;have dh:lines≠[]:=λe=>dh (by rw[e];rfl);show dx.val (.bool false)=_;simp[bB,dh];have dh:lines=[]:=by have h:(((lines.map mT).length:Nat):Int)=0:=dh;rw[ah]at h;exact jq oO
 refine cl (iB [2,3,4,6,7] 1 false dD dD).dz ?_;refine aB (λpE=>?_) (λpE=>?_);rotate_left;have pE:over≠[]:=λe=>pE (by rw[e];rfl);show dx.val (.bool false)=_;simp[bB,pE];have pE:over=[]:=by have h:(((over.map cI).length:Nat):Int)=0:=pE;rw[ah]at h;exact jq oO
 show dx.val (.bool true)=_;simp[bB,xk,eU,ek,en,eo,mZ,nc,dh,pE]
theorem aaR (file:bV)(type:Int)(parent:bV)(name:Bytes)(mode:Int)(data:Bytes)(cS cZ:bV)(lines:List Bytes)(over:List bV)(hl:lines.length<=2^47)(ho:over.length<=2^47):aq C 295 [.agg (cC ⟨5,file,type,parent,name,mode,data,cS,cZ,lines,over⟩)] (λr=>r=.val (.bool (bB (eC ⟨5,file,type,parent,name,mode,data,cS,cZ,lines,over⟩)))):=by
 rw[show eC ⟨5,file,type,parent,name,mode,data,cS,cZ,lines,over⟩=_ from rfl];unfold eC;simp only[Int.reduceEq,if_true,if_false];refine aY qu [] Tryz.func295 rfl rfl rfl ?_;refine⟨[3],dy (cells:=[.p (.int .i64 5)]) (ys:=[.int .i64 5]) rfl rfl rfl ?_⟩;refine⟨none,?_⟩;refine cl (iB [1] 5 false dD dD).dz ?_;refine aB (λep=>?_) (λep=>?_);rotate_left;have ep:type≠0:=ep;show dx.val (.bool false)=_;simp[bB,ep];have ep:type=0:=ep;refine cl (iB [2,3,4,5,6] 5 true dD dD).dz ?_;refine cl (iB [2] 5 false dD dD).dz ?_;refine qT ?_;refine jC (a:=parent) (b:=aS) ?_;by_cases eU:parent=aS;rotate_left;rw[ak eU];show dx.val (.bool false)=_;simp[bB,eU];rw[an eU];refine aB (λek=>?_) (λek=>?_);rotate_left;have ek:name≠[]:=ek;show dx.val (.bool false)=_;simp[bB,ek];have ek:name=[]:=ek;refine cl (iB [3] 5 false dD dD).dz ?_;refine aB (λen=>?_) (λen=>?_);rotate_left;have en:mode≠0:=en;show dx.val (.bool false)=_;simp[bB,en];have en:mode=0:=en;refine cl (iB [4] 5 false dD dD).dz ?_;refine aB (λeo=>?_) (λeo=>?_);rotate_left;have eo:data≠[]:=eo;show dx.val (.bool false)=_;simp[bB,eo];have eo:data=[]:=eo;refine cl (iB [5,6] 5 true dD dD).dz ?_;refine cl (iB [5] 5 true dD dD).dz ?_;refine cl (iB [2,3,4,6,7] 5 false dD dD).dz ?_;refine aB (λpE=>?_) (λpE=>?_);rotate_left;have pE:over≠[]:=λe=>pE (by rw[e];rfl);show dx.val (.bool false)=_;simp[bB,pE];have pE:over=[]:=by have h:(((over.map cI).length:Nat):Int)=0:=pE;rw[ah]at h;exact jq oO
 show dx.val (.bool true)=_;simp[bB,ep,eU,ek,en,eo,pE]
def aiA (l:List cq):Prop:=∀(i j:Nat)(hi:i<j)(hj:j<l.length),gV (l[i]'oO).id l[j].id<0
section
variable (l:List cq)(hs:aiA l)(hl:l.length<=2^40)
include hs hl
end
section
variable (A:gr->List cq)
def aem (s:List cL):Prop:=∀x,x∈s->aq C 93 [.agg (cP x.pat)] (λr=>r=.own (some [.int .i64 0]) 109 172 (iu (A x.pat)))
end
end Qv
