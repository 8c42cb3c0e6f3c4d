/- Part 35 of the proof: its lemmas. No condition. -/
import Derived.Test.YtiboombocnfngaaGreatDoorZ3
import Derived.Test.YtiboombocnfngaaGreatDoorZ22
import Derived.Test.YtiboombocnfngaaGreatDoorZ24
import Derived.Test.YtiboombocnfngaaGreatDoorZ26
import Derived.Test.YtiboombocnfngaaGreatDoorZ27
import Derived.Test.YtiboombocnfngaaGreatDoorZ28
set_option maxRecDepth 10000
set_option maxHeartbeats 80000000
set_option linter.all false
open Go Go.Proofs Go.RowKit
namespace Qv
theorem abN {s:List fk}(h:GO s){i:bB}{b:bO}(hb:lV s i=some b):b.id=i:=by
 unfold lV at hb;split at hb;rename_i h2;obtain rfl:=ak hb;unfold iH at h2⊢;split at h2;cases h2;rename_i hn;rw[aa hn];by_cases hd:i.p∈gO s;obtain⟨x,hx,e⟩:=aB.1 hd;have hg:uW s i.p=(x.pat,true):=by rw[<-e];exact rq h.ok.GL hx
 rw[hg]at hn⊢;have hk:i.n.toNat<(jJ x.pat).length:=by have hn:¬(i.n<0\/((jJ x.pat).length:Int)<=i.n):=hn;omega
 show((jJ x.pat).getD i.n.toNat de).id=i;rw[dc,an hk];show(jJ x.pat)[i.n.toNat].id=i;rw[By h hx _ hk,e];cases i;simp only[bB.mk.injEq,true_and]at*;omega;rw[EL hd]at hn;rw[show(wB US).1=[]from rfl]at hn;exfalso;exact hn (by simp only[bA];omega);cases hb
theorem Md {s:List fk}(h:GO s){p:iA}{d:Dg}(hq:uY p)(hd:d∉bU p)(hn:∀q,q∈bU p->q∈gO s):VG s ⟨d,p⟩:=by refine⟨by have :=hq.UY.changes;show p.changes.length<=_;omega,λc hc=>?_,λc hc=>LM hq hd hc λi b hb=>abN h hb,λc hc i hi hz=>hn _ (zW hq.ok hc hi hz)⟩;have hf:=hq.UY.each c hc;by_cases g:c.kind=5;rw[(QK hf).over (.inr g)];exact zL;have :=(fZ hf).2.2.2.1 g;omega
theorem ae7:uY pP:=Jw.q ⟨dP,pP⟩ (aL.2 rfl)
theorem abO:uY pQ:=aee.q ⟨dQ,pQ⟩ (.tail _ (.head _))
theorem abP:bU pP=[]:=kK
theorem VH:dQ∉gO sP:=λh=>by have :decide (dQ∈gO sP)=false:=kK;rw[ai h]at this;cases this
theorem aji:Uh sP dQ=sP.length:=kK
theorem aeg:au C 31 [.sl [],.agg (cP pP)] (λr=>r=.val (.eS [.sl (jR sP),.agg (cD dP),.int .i64 0])):=XZ (s:=[]) rfl agN ae7 idP (λh=>by cases h) ajg (Md agN ae7 (by rw[abP];exactλh=>by cases h) (by rw[abP];exactλq h=>by cases h)) kK dD rfl
theorem aeh:au C 31 [.sl (jR sP),.agg (cP pQ)] (λr=>r=.val (.eS [.sl (jR sQ),.agg (cD dQ),.int .i64 0])):=Ui (s:=sP) (by unfold sP;exact kJ _ _) Jw abO idQ VH Ob (Md Jw abO (λh=>VH (by have :=br.1 Ob dQ h;simpa using this)) (λq h=>by have :=br.1 Ob q h;simpa using this)) ai4 dD aji
theorem ajj:mQ sP ⟨dQ,pQ⟩=sQ:=kK
theorem aei:BA (rJ sP) ⟨dQ,pQ⟩=(rJ sQ,0):=by
 have hsub:∀y,y∈sP->y∈sQ:=λy hy=>by rw[aL.1 hy];exact .head _
 have hm:(⟨dQ,pQ⟩:fk)∈sQ:=.tail _ (.head _);have hw:kO (rJ sP) ⟨dQ,pQ⟩=rJ sQ:=by rw[IX (λa ha=>NI aee _ hm a ha) Jw.ok.GL (NI Jw) (λy hy e=>VH (by rw[<-(show y.id=dQ from e)];exact aB.2 ⟨y,hy,rfl⟩)),ajj]
 exact(TG aee hsub dD hm VH).trans ((af Ob).trans (by rw[hw]))
theorem JA:au C 11 [] (λr=>r=.val (.bool true)):=by
 have hb:=TU (s:=sP) (λx hx=>TS Jw hx) dD;rw[Xk Jw.ok.GL (NI Jw),ae4]at hb;have hg:=QA sQ ⟨dQ,pQ⟩ dQ kK dD;have hx1:=XA Jw Jw.ok.GL (λy hy=>hy) dD;have hap:=TV hx1 (p:=⟨dQ,pQ⟩) (Dn abO) (λ_=>TS aee (x:=⟨dQ,pQ⟩) (.tail _ (.head _)));rw[aei,ae4,aja]at hap;have OZ:=zj (x:=⟨[⟨dP,bU pP⟩],lP⟩) ajc ⟨by show lP.length<=_;rw[VF];decide,λa ha=>by rw[EZ a ha];decide⟩;have DU:=zj (x:=⟨[⟨dP,bU pP⟩,⟨dQ,bU pQ⟩],lP++lQ⟩) ajd ⟨by show(lP++lQ).length<=_;rw[ay,VF,abH];decide,λa ha=>by rcases bf.1 ha with ha|ha;rw[EZ a ha];decide;rw[(q_Q a ha).1];decide⟩;have hc:=Ky (BH (lP++lQ) e2) ⟨dP,1⟩ (by rw[ae5];decide);rw[ah ajf]at hc;have n1:((lP.map cA).length:Int)=4:=by rw[aj,VF];rfl
 have n2:(((lP++lQ).map cA).length:Int)=5:=by rw[aj,ay,VF,abH];rfl
 have n3:(((BH lP e1).map cI).length:Int)=4:=by rw[aj,aje];rfl
 have n4:(((BH (lP++lQ) e2).map cI).length:Int)=4:=by rw[aj,ae5];rfl
 refine bn qz [3,4] Tryz.func11 rfl rfl rfl (cl aeg.dY (ee 106 [(2,.p (.sl (jR sP))),(3,.ptr 3 0),(4,.p (.int .i64 0))] [(3,aI (cD dP))] kK wS oS (cl aeh.dY (ee 106 [(2,.p (.sl (jR sP))),(3,.ptr 3 0),(4,.p (.int .i64 0)),(5,.p (.sl (jR sQ))),(6,.ptr 6 0),(7,.p (.int .i64 0))] [(3,aI (cD dP)),(6,aI (cD dQ))] kK wS oS (cl hb.dY ⟨none,eD (λg=>absurd rfl g) (λ_=>eD (λg=>absurd rfl g) (λ_=>eD (λg=>absurd rfl g) (λ_=>eD (λg=>absurd n1 g) (λ_=>eD (λg=>absurd rfl g) (λ_=>cl hg.dY (cl hap.dY (cw 29 kK (aH (λ_=>?_) (λg=>absurd rfl g)))))))))⟩)))));refine aH (λ_=>?_) (λg=>absurd n2 g);refine⟨_,OZ.dY,aH (λ_=>?_) (λg=>absurd n3 g)⟩;refine⟨_,DU.dY,aH (λ_=>?_) (λg=>absurd n4 g)⟩;exact⟨_,DU.dY,_,rfl,_,hc.dY,bR rfl⟩
theorem Ya {x:iI}(f:bB)(h:x.atoms.length<=2^20):(uA x f).1.1.length<=2^47/\(uA x f).1.2.length<=2^47:=by have a1:=GU x.atoms f x.atoms.length;have a2:=NU (vj x) x.atoms f x.atoms.length;rw[aP]at a1 a2;have a3:=EV (Jr x f) (AN (vj x) x.atoms f) [];unfold uA;split;exact⟨zL,zL⟩;split;exact⟨zL,zL⟩;refine⟨?_,?_⟩;show(Kv _ _ _).length<=_;unfold Kv;rw[aj];omega;rw[bA]at a3;exact bL a3 oO
theorem alr (x:iI)(i:bB)(h1:x.pats.length<=2^47)(h2:x.atoms.length<=2^47):au C 5 [.agg (iD x),.agg (cI i)] (λr=>r=.val (.bool true)):=by
 refine aq Tryz.func5 rfl rfl rfl (cl (XE x h1 h2) (bR ?_));cases hf:Vi x with
 |false=>exact cl JA rfl
 |true=>unfold Vi at hf;rw[aR,cE,decide_eq_true_eq]at hf;have hc:=hf.2;have hs:=QX hf.1;have h8:=hs.pats;have ale:=hs.atoms;have g1:=TZ (x:=x) (abj hc) ⟨oO,λa ha=>by have :=(hs.fields a ha).1;omega⟩ (abk hc) i (aiQ hc);have g2:=TL (x:=x) hs.v.q oO oO (λa ha=>by have :=(hs.fields a ha).1;omega) i;obtain⟨l1,l2⟩:=Rq hs hc;have hl:=abB hs;obtain⟨n1,n2⟩:=Ya (x:=x) i oO;generalize uA x i=G at g1 g2 n1 n2;obtain⟨G,e⟩:=G;refine cl g1 (cl g2 (cw 13 kK ⟨_,l1,_,l2,_,TY (vj x) (vj x) oO oO,?_⟩));rw[ai rfl];refine⟨_,aaV G G n1 n2,?_⟩;rw[ai rfl];refine aH (λ_=>?_) (λg=>absurd rfl g);exact cl JA rfl
end Qv
