/- Part 35 of the proof: its lemmas. No condition. -/
import Derived.Test.YtiboombocnfngaaGreatDoorX3
import Derived.Test.YtiboombocnfngaaGreatDoorX22
import Derived.Test.YtiboombocnfngaaGreatDoorX23
import Derived.Test.YtiboombocnfngaaGreatDoorX24
import Derived.Test.YtiboombocnfngaaGreatDoorX25
import Derived.Test.YtiboombocnfngaaGreatDoorX27
import Derived.Test.YtiboombocnfngaaGreatDoorX28
set_option maxRecDepth 10000
set_option maxHeartbeats 80000000
set_option linter.all false
open Go Go.Proofs Go.RowKit
namespace Qv
theorem ac0 {s:List fD}(h:HA s){i:bQ}{b:bR}(hb:mA s i=some b):b.id=i:=by
 unfold mA at hb;split at hb;rename_i h2;obtain rfl:=aq hb;unfold iT at h2⊢;split at h2;cases h2;rename_i hn;rw[af hn];by_cases hd:i.p∈iz s;obtain⟨x,hx,e⟩:=aJ.1 hd;have hg:wC s i.p=(x.pat,true):=by rw[<-e];exact sw h.ok.Hy hx
 rw[hg]at hn⊢;have hk:i.n.toNat<(iB x.pat).length:=by have hn:¬(i.n<0\/((iB x.pat).length:Int)<=i.n):=hn;omega
 show((iB x.pat).getD i.n.toNat dK).id=i;rw[dr,ay hk];show(iB x.pat)[i.n.toNat].id=i;rw[Cw h hx _ hk,e];cases i;simp only[bQ.mk.injEq,true_and]at*;omega;rw[Fy hd]at hn;rw[show(nL VT).1=[]from rfl]at hn;exfalso;exact hn (by simp only[bt];omega);cases hb
theorem Ng {s:List fD}(h:HA s){p:gr}{d:Dg}(hq:sV p)(hd:d∉bC p)(hn:∀q,q∈bC p->q∈iz s):Wn s ⟨d,p⟩:=by refine⟨by have :=hq.SI.changes;show p.changes.length<=_;omega,λc hc=>?_,λc hc=>nh hq hd hc λi b hb=>ac0 h hb,λc hc i hi hz=>hn _ (wH hq.ok hc hi hz)⟩;have hf:=hq.SI.each c hc;by_cases g:c.kind=5;rw[(RW hf).over (.inr g)];exact zL;have :=(eD hf).2.2.2.1 g;omega
theorem agm:sV pP:=Kk.q ⟨dP,pP⟩ (aO.2 rfl)
theorem ac8:sV pQ:=afq.q ⟨dQ,pQ⟩ (.tail _ (.head _))
theorem ac9:bC pP=[]:=kK
theorem WC:dQ∉iz sP:=λh=>by have :decide (dQ∈iz sP)=false:=kK;rw[ah h]at this;cases this
theorem aj7:UY sP dQ=sP.length:=kK
theorem afx:av C 31 [.sl [],.agg (cP pP)] (λr=>r=.val (.eN [.sl (kG sP),.agg (cD dP),.int .i64 0])):=YH (s:=[]) rfl ahR agm idP (λh=>by cases h) aj4 (Ng ahR agm (by rw[ac9];exactλh=>by cases h) (by rw[ac9];exactλq h=>by cases h)) kK dD rfl
theorem afy:av C 31 [.sl (kG sP),.agg (cP pQ)] (λr=>r=.val (.eN [.sl (kG sQ),.agg (cD dQ),.int .i64 0])):=Vd (s:=sP) (by unfold sP;exact mP _ _) Kk ac8 idQ WC Ph (Ng Kk ac8 (λh=>WC (by have :=bD.1 Ph dQ h;simpa using this)) (λq h=>by have :=bD.1 Ph q h;simpa using this)) ajS dD aj7
theorem aj8:nM sP ⟨dQ,pQ⟩=sQ:=kK
theorem afz:qN (sM sP) ⟨dQ,pQ⟩=(sM sQ,0):=by
 have hsub:∀y,y∈sP->y∈sQ:=λy hy=>by rw[aO.1 hy];exact .head _
 have hm:(⟨dQ,pQ⟩:fD)∈sQ:=.tail _ (.head _);have hw:lE (sM sP) ⟨dQ,pQ⟩=sM sQ:=by rw[JL (λa ha=>OR afq _ hm a ha) Kk.ok.Hy (OR Kk) (λy hy e=>WC (by rw[<-(show y.id=dQ from e)];exact aJ.2 ⟨y,hy,rfl⟩)),aj8]
 exact(UB afq hsub dD hm WC).trans ((ag Ph).trans (by rw[hw]))
theorem CH:av C 11 [] (λr=>r=.val (.bool true)):=by
 have hb:=UQ (s:=sP) (λx hx=>UP Kk hx) dD;rw[Ya Kk.ok.Hy (OR Kk),agj]at hb;have hg:=RQ sQ ⟨dQ,pQ⟩ dQ kK dD;have hx1:=Ym Kk Kk.ok.Hy (λy hy=>hy) dD;have hap:=UR hx1 (p:=⟨dQ,pQ⟩) (Ee ac8) (λ_=>UP afq (x:=⟨dQ,pQ⟩) (.tail _ (.head _)));rw[afz,agj,ajY]at hap;have Pk:=GL (x:=⟨[⟨dP,bC pP⟩],lP⟩) aj0 ⟨by show lP.length<=_;rw[Wz];decide,λa ha=>by rw[FK a ha];decide⟩;have GS:=GL (x:=⟨[⟨dP,bC pP⟩,⟨dQ,bC pQ⟩],lP++lQ⟩) aj1 ⟨by show(lP++lQ).length<=_;rw[aA,Wz,acZ];decide,λa ha=>by rcases bk.1 ha with ha|ha;rw[FK a ha];decide;rw[(q_Q a ha).1];decide⟩;have hc:=Lr (Lp (lP++lQ) e2) ⟨dP,1⟩ (by rw[agk];decide);rw[ai aj3]at hc;have n1:((lP.map cA).length:Int)=4:=by rw[aj,Wz];rfl
 have n2:(((lP++lQ).map cA).length:Int)=5:=by rw[aj,aA,Wz,acZ];rfl
 have n3:(((Lp lP e1).map cI).length:Int)=4:=by rw[aj,aj2];rfl
 have n4:(((Lp (lP++lQ) e2).map cI).length:Int)=4:=by rw[aj,agk];rfl
 refine bu qZ [3,4] Tryz.func11 rfl rfl rfl (cl afx.eG (de 106 [(2,.p (.sl (kG sP))),(3,.ptr 3 0),(4,.p (.int .i64 0))] [(3,aH (cD dP))] kK wS oS (cl afy.eG (de 106 [(2,.p (.sl (kG sP))),(3,.ptr 3 0),(4,.p (.int .i64 0)),(5,.p (.sl (kG sQ))),(6,.ptr 6 0),(7,.p (.int .i64 0))] [(3,aH (cD dP)),(6,aH (cD dQ))] kK wS oS (cl hb.eG ⟨none,cm (λg=>absurd rfl g) (λ_=>cm (λg=>absurd rfl g) (λ_=>cm (λg=>absurd rfl g) (λ_=>cm (λg=>absurd n1 g) (λ_=>cm (λg=>absurd rfl g) (λ_=>cl hg.eG (cl hap.eG (bZ 29 kK (aC (λ_=>?_) (λg=>absurd rfl g)))))))))⟩)))));refine aC (λ_=>?_) (λg=>absurd n2 g);refine⟨_,Pk.eG,aC (λ_=>?_) (λg=>absurd n3 g)⟩;refine⟨_,GS.eG,aC (λ_=>?_) (λg=>absurd n4 g)⟩;exact⟨_,GS.eG,_,rfl,_,hc.eG,bF rfl⟩
theorem Uz.of {x:jj}(hv:UH x)(h1:x.pats.length<=2^20)(h2:x.atoms.length<=2^28):Uz x:=by refine⟨?_,?_,h1,h2⟩;exact xY.2 (hv.pats.imp λ{a b} hab e=>by rw[e]at hab;exact ji _ hab);exact xY.2 (hv.atoms.imp λ{a b} hab e=>by rw[e]at hab;exact pS _ hab)
theorem Pj {p:gr}(hf:DW p)(hg:nI p=false)(h:(jB p).2=0):sV p:=⟨hf,ML h,by have :=Uy hg;omega⟩
theorem afA {p:fD}(hq:sV p.pat)(hd:(jB p.pat).1∉bC p.pat):OkT p:=⟨hq,by rw[sL hq];exact(JC hq (JK hq hd) (ya hq)).Ei⟩
theorem YM {p:gr}(h:nI p=false):p.changes.length<=20:=by unfold nI at h;simp only[mO,decide_eq_false_iff_not]at h;omega
theorem Ve {x:jj}(hv:UH x)(hs:FH x){p:fD}(hz:Rc p.pat)(hg:nI p.pat=false):av C 13 [.agg (ij x),.agg (mT p)] (λr=>r=.val (Uk (qN x p)))/\av C 19 [.agg (ij x),.agg (mT p)] (λr=>r=.val (Uk (qN x p))):=by have hf:DW p.pat:=Ox hz (TR hg);have h8:=hs.pats;have ahU:=hs.atoms;refine⟨GJ (Uz.of hv oO oO) (acG hf (YM hg)) (Pj hf hg) λh1 h2 h3 h4=>afA (Pj hf hg h1) λc=>?_,?_⟩;have :=dn (bD.1 h4 _ c);rw[h2]at this;exact h3 this;rw[<-acH hv (Pj hf hg)];exact UD ⟨oO,λk hk=>by have :=hs.cS k hk;omega,oO,λa ha=>by have :=(hs.fields a ha).1;omega⟩ oO oO hf
theorem YN {x:jj}(hs:FH x)(p:fD):SzX (qN x p).1:=by have h8:=hs.pats;have ahU:=hs.atoms;have h0:SzX iU:=⟨zL,(λk hk=>by cases hk),zL,(λa ha=>by cases ha)⟩;unfold qN;split;exact h0;split;exact h0;split;exact h0;split;exact h0;split;exact h0;split;exact h0;have hb:=MM p.pat;refine⟨by rw[Na];omega,λk hk=>?_,by rw[Ke];omega,λa ha=>?_⟩;rcases lF.1 hk with hk|hk;have :=hs.cS k hk;omega;rw[aO.1 hk];have :=xO p.pat;show(bC p.pat).length<=_;omega;rcases lF.1 ha with ha|ha;have :=(hs.fields a ha).1;omega;have :=hb.2 a ha;omega
theorem Vf {x:jj}(hs:FH x)(d:Dg):SzX (vC x d).1:=by have h8:=hs.pats;have ahU:=hs.atoms;have h0:SzX iU:=⟨zL,(λk hk=>by cases hk),zL,(λa ha=>by cases ha)⟩;unfold vC;split;exact h0;split;exact h0;have l1:=lq (λk:yb=>!decide (k.id=d)) x.pats;have l2:=lq (λa:bR=>!decide (a.id.p=d)) x.atoms;refine⟨by show(x.pats.filter _).length<=_;omega,λk hk=>?_,by show(x.atoms.filter _).length<=_;omega,λa ha=>?_⟩;have :=hs.cS k (om.1 hk).1;omega;have :=(hs.fields a (om.1 ha).1).1;omega
theorem amj (x:jj)(p:fD)(d:Dg)(h1:x.pats.length<=2^47)(h2:x.atoms.length<=2^47)(hz:Rc p.pat):av C 4 [.agg (ij x),.agg (mT p),.agg (cD d)] (λr=>r=.val (.bool true)):=by
 refine ak Tryz.func4 rfl rfl rfl ⟨none,cl (Ys x h1 h2) (bF ?_)⟩;cases hf:Wj x with
 |false=>exact cl CH rfl
 |true=>
  refine cl (Xt p.pat hz) ?_;cases hg:nI p.pat with
  |true=>exact cl CH rfl
  |false=>unfold Wj at hf;rw[bn,ek,decide_eq_true_eq]at hf;have hv:=ahL hf.2;have hs:=Sr hf.1;have h8:=hs.pats;have ahU:=hs.atoms;obtain⟨a1,a2⟩:=Ve hv hs hz hg;have b1:=Sw (x:=x) ⟨oO,λk hk=>by have :=hs.cS k hk;omega,oO⟩ d;have b2:=Sd hs.v.q oO oO d;rw[Yr hv]at b2;have sA:=YN hs p;have sR:=Vf hs d;generalize qN x p=A at a1 a2 sA;generalize vC x d=R at b1 b2 sR;obtain⟨A,e⟩:=A;obtain⟨R,f⟩:=R;refine cl a1 (cl a2 (cl b1 (cl b2 ⟨none,cl (Si sA sA) ?_⟩)));rw[ah rfl];refine aC (λ_=>?_) (λg=>absurd rfl g);refine cl (Si sR sR) ?_;rw[ah rfl];refine aC (λ_=>?_) (λg=>absurd rfl g);exact cl CH rfl
end Qv
