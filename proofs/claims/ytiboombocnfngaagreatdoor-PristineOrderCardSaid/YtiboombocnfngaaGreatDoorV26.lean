/- Part 32 of the proof: its lemmas. No condition. -/
import Derived.Test.YtiboombocnfngaaGreatDoorV4
import Derived.Test.YtiboombocnfngaaGreatDoorV20
import Derived.Test.YtiboombocnfngaaGreatDoorV21
import Derived.Test.YtiboombocnfngaaGreatDoorV22
import Derived.Test.YtiboombocnfngaaGreatDoorV24
import Derived.Test.YtiboombocnfngaaGreatDoorV25
set_option maxRecDepth 10000
set_option maxHeartbeats 80000000
set_option linter.all false
open Go Go.Proofs Go.RowKit
namespace Qv
theorem afD:xw pP:=Jz.q ⟨dP,pP⟩ (aP.2 rfl)
theorem ab3:xw pQ:=aeF.q ⟨dQ,pQ⟩ (.tail _ (.head _))
theorem ab4:bI pP=[]:=kK
theorem Vx:dQ∉dN sP:=λh=>by have :decide (dQ∈dN sP)=false:=kK;rw[an h]at this;cases this
theorem ajb:TT sP dQ=sP.length:=kK
theorem aeP:aq C 31 [.sl [],.agg (cP pP)] (λr=>r=.val (.eW [.sl (eS sP),.agg (cD dP),.int .i64 0])):=XF (s:=[]) rfl agU afD idP (λh=>by cases h) ai6 (Fh agU afD (by rw[ab4];exactλh=>by cases h) (by rw[ab4];exactλq h=>by cases h)) kK dD rfl
theorem aeQ:aq C 31 [.sl (eS sP),.agg (cP pQ)] (λr=>r=.val (.eW [.sl (eS sQ),.agg (cD dQ),.int .i64 0])):=TU (s:=sP) (by unfold sP;exact mF _ _) Jz ab3 idQ Vx NX (Fh Jz ab3 (λh=>Vx (by have :=bA.1 NX dQ h;simpa using this)) (λq h=>by have :=bA.1 NX q h;simpa using this)) aiU dD ajb
theorem ajc:lW sP ⟨dQ,pQ⟩=sQ:=kK
theorem aeR:EY (lR sP) ⟨dQ,pQ⟩=(lR sQ,0):=by
 have hsub:∀y,y∈sP->y∈sQ:=λy hy=>by rw[aP.1 hy];exact .head _
 have hm:(⟨dQ,pQ⟩:cL)∈sQ:=.tail _ (.head _);have hw:jy (lR sP) ⟨dQ,pQ⟩=lR sQ:=by rw[DQ (λa ha=>tj aeF _ hm a ha) Jz.ok.uY (tj Jz) (λy hy e=>Vx (by rw[<-(show y.id=dQ from e)];exact aC.2 ⟨y,hy,rfl⟩)),ajc]
 exact(Jy aeF hsub dD hm Vx).trans ((ag NX).trans (by rw[hw]))
theorem Ce:aq C 11 [] (λr=>r=.val (.bool true)):=by
 have hb:=ug (s:=sP) (λx hx=>BX Jz hx) dD;rw[Ao Jz.ok.uY (tj Jz),afz]at hb;have hg:=QJ sQ ⟨dQ,pQ⟩ dQ kK dD;have hx1:=vQ Jz Jz.ok.uY (λy hy=>hy) dD;have hap:=JH hx1 (p:=⟨dQ,pQ⟩) (vL ab3) (λ_=>BX aeF (x:=⟨dQ,pQ⟩) (.tail _ (.head _)));rw[aeR,afz,ai0]at hap;have GH:=Gi (x:=⟨[⟨dP,bI pP⟩],lP⟩) ai2 ⟨by show lP.length<=_;rw[Vt];decide,λa ha=>by rw[Fg a ha];decide⟩;have Gp:=Gi (x:=⟨[⟨dP,bI pP⟩,⟨dQ,bI pQ⟩],lP++lQ⟩) ai3 ⟨by show(lP++lQ).length<=_;rw[ay,Vt,abE];decide,λa ha=>by rcases aZ.1 ha with ha|ha;rw[Fg a ha];decide;rw[(q_Q a ha).1];decide⟩;have hc:=KC (Ky (lP++lQ) e2) ⟨dP,1⟩ (by rw[afA];decide);rw[ak ai5]at hc;have n1:((lP.map cA).length:Int)=4:=by rw[ah,Vt];rfl
 have n2:(((lP++lQ).map cA).length:Int)=5:=by rw[ah,ay,Vt,abE];rfl
 have n3:(((Ky lP e1).map cI).length:Int)=4:=by rw[ah,ai4];rfl
 have n4:(((Ky (lP++lQ) e2).map cI).length:Int)=4:=by rw[ah,afA];rfl
 refine aY qu [3,4] Tryz.func11 rfl rfl rfl ?_;refine cl aeP.dz ?_;refine dc 106 [(2,.p (.sl (eS sP))),(3,.ptr 3 0),(4,.p (.int .i64 0))] [(3,aG (cD dP))] kK wS oS ?_;refine cl aeQ.dz ?_;refine dc 106 [(2,.p (.sl (eS sP))),(3,.ptr 3 0),(4,.p (.int .i64 0)),(5,.p (.sl (eS sQ))),(6,.ptr 6 0),(7,.p (.int .i64 0))] [(3,aG (cD dP)),(6,aG (cD dQ))] kK wS oS ?_;refine cl hb.dz ?_;refine⟨none,?_⟩;refine cu (λg=>absurd rfl g) (λ_=>?_);refine cu (λg=>absurd rfl g) (λ_=>?_);refine cu (λg=>absurd rfl g) (λ_=>?_);refine cu (λg=>absurd n1 g) (λ_=>?_);refine cu (λg=>absurd rfl g) (λ_=>?_);refine cl hg.dz ?_;refine cl hap.dz ?_;refine bW 29 kK ?_;refine aB (λ_=>?_) (λg=>absurd rfl g);refine aB (λ_=>?_) (λg=>absurd n2 g);refine⟨_,GH.dz,?_⟩;refine aB (λ_=>?_) (λg=>absurd n3 g);refine⟨_,Gp.dz,?_⟩;refine aB (λ_=>?_) (λg=>absurd n4 g);refine⟨_,Gp.dz,?_⟩;refine⟨_,rfl,?_⟩;refine⟨_,hc.dz,?_⟩;refine bH ?_;exact rfl
theorem alo (s:List cL)(o:Bytes)(hz:Wo s)(ho:o.length<=2^47):aq C 3 [.sl (eS s),.sl (iV o)] (λr=>r=.val (.bool true)):=by by_cases hs:s=[];subst hs;exact Ob o hz Ce;exact RB s o hs hz ho Ce
theorem alp (s:List cL)(d:Dg)(hz:Wo s):aq C 6 [.sl (eS s),.agg (cD d)] (λr=>r=.val (.bool true)):=KD s d hz Ce
end Qv
