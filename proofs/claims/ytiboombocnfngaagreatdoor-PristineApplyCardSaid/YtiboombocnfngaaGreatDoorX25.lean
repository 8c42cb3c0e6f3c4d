/- Part 31 of the proof: its lemmas. No condition. -/
import Derived.Test.YtiboombocnfngaaGreatDoorX20
import Derived.Test.YtiboombocnfngaaGreatDoorX21
set_option maxRecDepth 10000
set_option maxHeartbeats 80000000
set_option linter.all false
open Go Go.Proofs Go.RowKit
namespace Qv
theorem Sg (c:dw)(f:Nat):(cu c f).length=if c.kind=5 then 2*c.lines.length+1 else 1:=by unfold cu;split;rw[aA,aj,aj,fe,fe];omega;rfl
theorem Sh (c:dw)(hl:c.kind=5->c.lines.length<=2^30):av C 132 [.agg (cC c)] (λr=>r=.val (.int .i64 ((cu c 0).length:Int))):=by rw[Sg];refine ak Tryz.func132 rfl rfl rfl (aC (λh=>?_) (λh=>?_));have h:c.kind=5:=h;rw[ag h];have hl:=hl h;refine⟨((2*c.lines.length:Nat):Int),by rw[show(((c.lines.map mL).length:Nat):Int)=(c.lines.length:Int)from by rw[aj]];rw[wrap64 oO oO];omega,?_⟩;refine⟨((2*c.lines.length+1:Nat):Int),by rw[wrap64 oO oO];omega,?_⟩;exact rfl;have h:¬c.kind=5:=h;rw[af h];exact rfl
theorem UC {p:gr}(hfit:DW p)(hok:(mg p).2=0)(i:Nat)(hi:i<p.changes.length):av C 56 [.agg (cP p),.int .i64 (i:Int)] (λr=>r=.val (.int .i64 (kj p i:Int))):=by
 have ho:=(AP hok).1;have mF:=ho.changes;have Za:=Ma p hfit.sz hfit.enc;rw[hok]at Za;have hsz:=hfit.sz;obtain⟨au,ms,tm,dp,cs⟩:=p;simp only at hi mF;rw[show kj ⟨au,ms,tm,dp,cs⟩ i=JV (cs.take i)from rfl];have hf:∀c,c∈cs->cG c=0:=ho.each;refine ak Tryz.func56 rfl rfl rfl ⟨none,aF (λg=>absurd (show(i:Int)<0 from g) oO) (λ_=>?_)⟩;refine aF (λg=>absurd (show(i:Int)≥((cs.map cC).length:Int)from g) (by rw[aj];omega)) (λ_=>?_);refine cl Za (cm (λg=>absurd rfl g) (λ_=>?_));refine bJ 35 (λk:Nat=>[(1,.p (.int .i64 (i:Int))),(2,.ptr 2 0),(5,.p (.int .i64 (JV (cs.take k):Int))),(6,.p (.int .i64 (k:Int)))]) (λ_=>[(2,aH (cP ⟨au,ms,tm,dp,cs⟩))]) (λk=>k<=i) (λk=>i-k) 0 zL kK wS oS ?_;intro k hk;refine aF (λhlt=>?_) (λhge=>?_);have hlt:(k:Int)<(i:Int):=hlt;have hn:=OZ hf k oO;have hx:=FF (l:=cs) (k:=k) oO;have hc:=hf cs[k] (aQ _);have fW:=λK (hK:K (cC cs[k]))=>ix (f:=cC) (l:=cs) (k:=k) (m:=139) (K:=K) oO hK;generalize cs[k]=c at hx hc fW;refine fW _ ?_;have hml:=uD hc 0;obtain⟨-,-,g3,-,-,-⟩:=eD hc;refine cl (Sh c λg=>by have :=(g3 g).1;omega) ?_;refine⟨((JV (cs.take k)+(cu c 0).length:Nat):Int),by rw[wrap64 oO oO];omega,?_⟩;exact nx (k+1) (aT (k+1) (by show k+1<=i;omega) mM kK (by rw[hx];exact wS) oS);have hge:¬(k:Int)<(i:Int):=hge;obtain rfl:k=i:=oO
 exact rfl
theorem MK {α:Type}{gt:α->Bool}{new l:List α}{y:α}(h:y∈pI gt new l):y∈l\/y∈new:=by
 have key:∀k,k<=l.length->∀y,y∈(gG gt new l k).1->y∈l\/y∈new:=by
  intro k;induction k with
  |zero=>intro _ y hy;exact absurd hy (by show y∉([]:List α);simp)
  |succ k ih=>intro hk y hy;rw[yg oO]at hy;unfold wK at hy;have ih:=ih oO y;split at hy;simp only[bk,aO]at hy;rcases hy with(hy|hy)|rfl;exact ih hy;exact .inr hy;exact .inl (aQ _);simp only[bk,aO]at hy;rcases hy with hy|rfl;exact ih hy;exact .inl (aQ _)
 unfold pI at h;split at h;exact key _ (aB _) _ h;rcases bk.1 h with h|h;exact key _ (aB _) _ h;exact .inr h
theorem JW {α:Type}(gt:α->Bool)(new l:List α):(pI gt new l).length<=l.length+new.length:=by have :=FE gt new l l.length (aB _);unfold pI;split;rename_i h;rw[h,ag rfl]at this;exact this;rename_i h;rw[af h]at this;rw[aA];omega
theorem ML {p:gr}(h:(jB p).2=0):(mg p).2=0:=by unfold jB at h;split at h;rename_i g;exact absurd h g;rename_i g;exact cK.1 g
theorem Pa {p:gr}(h:(jB p).2=0):nL p=(iB p,0):=by unfold iB nL;rw[af (λg=>g h)]
theorem MM (p:gr):(iB p).length<=2^22/\∀a,a∈iB p->a.over.length<=400:=by have hb:=qD p;unfold iB nL;split;exact⟨zL,λa ha=>by cases ha⟩;refine⟨by rw[aj];exact hb.1,λa ha=>?_⟩;obtain⟨b,hb',rfl⟩:=aJ.1 ha;rw[Cm];have h1:=Oo (jB p).1 b.over;have h2:=hb.2 b hb';omega
def JX (out:jj)(d:Dg)(p:gr)(i:Nat):List Int:=sN out (Eo out ⟨d,(kj p i:Int)⟩).1::(if(p.changes.getD i default).kind=5 then[sN out (Eo out ⟨d,((kj p i+(p.changes.getD i default).lines.length:Nat):Int)⟩).1,sN out (Eo out ⟨d,((kj p i+2*(p.changes.getD i default).lines.length:Nat):Int)⟩).1]else[])
def Sj (out:jj)(p:fD):Int:=bf ((List.range p.pat.changes.length).flatMap (JX out p.id p.pat))
def JY (x:jj)(p:fD):jj×Int:=if(jB p.pat).2≠0 then(iU,(jB p.pat).2)else if(jB p.pat).1≠p.id then(iU,13)else if p.id∈lN x then(iU,6)else if mV (lN x) (bC p.pat)=false then(iU,19)else if Sj (GF x ⟨p.id,bC p.pat⟩ (iB p.pat)) p≠0 then(iU,Sj (GF x ⟨p.id,bC p.pat⟩ (iB p.pat)) p)else if 400<=x.pats.length then(iU,4)else(GF x ⟨p.id,bC p.pat⟩ (iB p.pat),0)
theorem acs {x:jj}(h:∀a,a∈x.atoms->a.over.length<=2^47)(i:bQ):(Eo x i).1.over.length<=2^47:=by unfold Eo gJ;split;rename_i a ha;exact h a (lD ha);exact zL
theorem UD {x:jj}(h:SzX x)(h1:x.pats.length<=2^20)(h2:x.atoms.length<=2^28){p:fD}(hp:DW p.pat):av C 19 [.agg (ij x),.agg (mT p)] (λr=>r=.val (Uk (JY x p))):=by
 obtain⟨R,hR⟩:∃R,JY x p=R:=⟨_,rfl⟩;rw[hR];unfold JY at hR;have hid:=abl p.pat hp.sz hp.enc;have acu:=abr p.pat hp.sz hp.enc;have hnl:=xO p.pat;have qS:=XC p.pat hp;have hal:=MM p.pat;have hof:(jB p.pat).2=0->(mg p.pat).2=0:=ML;have haf:(jB p.pat).2=0->nL p.pat=(iB p.pat,0):=Pa;have FD:=λd=>Ep x d oO;have age:=λk l (hl:l.length<=2^28)=>aco x k l h1 h2 hl;obtain⟨W,hW⟩:∃W,GF x ⟨p.id,bC p.pat⟩ (iB p.pat)=W:=⟨_,rfl⟩;have hWq:SzQ W:=by rw[<-hW];refine⟨cg (JW _ _ _) ?_,λk hk=>?_,cg (JW _ _ _) ?_⟩;rw[fc];omega;rcases MK hk with hk|hk;have :=h.cS k hk;omega;rw[aO.1 hk];show(bC p.pat).length<=_;omega;have :=hal.1;omega
 have hWo:∀a,a∈W.atoms->a.over.length<=2^47:=by rw[<-hW];intro a ha;rcases MK ha with ha|ha;exact h.atoms.2 a ha;have :=hal.2 a ha;omega
 have hww:=age ⟨p.id,bC p.pat⟩ (iB p.pat) (by have :=hal.1;omega);rw[hW]at hR hww;have hfind:=λi=>JQ W i hWq.atoms;have ahF:=λi=>ME hWq (Eo W i).1 (acs hWo i);clear age;generalize jB p.pat=I at hid hR hof haf;generalize bC p.pat=N at acu hnl hR hww;generalize nL p.pat=AF at qS haf;generalize iB p.pat=A at hww hal haf;refine ak Tryz.func19 rfl rfl rfl (cl hid (cm (λg=>?_) (λg=>?_)));have g:I.2≠0:=g;rw[ag g]at hR;rw[<-hR];exact rfl;have g:I.2=0:=g;rw[af (λc=>c g)]at hR;have hE:=hof g;have haf:=haf g;subst haf;obtain⟨id,e⟩:=I;obtain rfl:e=0:=g;clear g hof;simp only at hR;refine⟨sC,ct,rfl,rfl,rfl,mw (a:=id) (b:=p.id) ?_⟩;by_cases hi:id=p.id;rotate_left;rw[ai hi];rw[ag hi]at hR;rw[<-hR];exact rfl;rw[ah hi];rw[af (λc=>c hi)]at hR;subst hi;refine cl (FD _) ?_;by_cases hm:p.id∈lN x;rw[ah hm];rw[ag hm]at hR;rw[<-hR];exact rfl;rw[ai hm];rw[af hm]at hR;refine cl acu ?_;refine bJ 161 (λk:Nat=>[(2,.ptr 2 0),(3,.ptr 3 0),(4,.ptr 4 0),(6,.ptr 6 0),(8,.p (.sl (pe N))),(9,.p (.int .i64 (k:Int)))]) (λk=>[(2,aH (ij x)),(3,aH (mT p)),(4,[.full [],.full []]),(6,aH (cD p.id))]) (λk=>k<=N.length/\mV (lN x) (N.take k)=true) (λk=>N.length-k) 0 ⟨zL,rfl⟩ kK wS oS ?_;rintro k ⟨hk,hn⟩;refine cq (λhlt=>?_) (λhge=>?_);have hall:decide (N[k]∈lN x)=true->mV (lN x) (N.take (k+1))=true:=λc=>by rw[cR hlt];unfold mV at hn⊢;rw[List.all_append,hn,tg,c];rfl
 have acp:decide (N[k]∈lN x)=false->mV (lN x) N=false:=λc=>by unfold mV;rw[DS];exact⟨N[k],aQ _,by rw[c];decide⟩
 have fW:=λK (hK:K (cD N[k]))=>ix (f:=cD) (l:=N) (m:=32) (K:=K) hlt hK;generalize N[k]=y at hall acp fW;refine bZ 7 kK (fW _ ⟨_,FD y,bF ?_⟩);cases hy:decide (y∈lN x)with
 |false=>rw[ag (acp hy)]at hR;rw[<-hR];exact rfl
 |true=>exact nx (k+1) (aT (k+1) ⟨hlt,hall hy⟩ mM kK wS oS)
 obtain rfl:k=N.length:=oO
 rw[aV]at hn;rw[af (by rw[hn];decide)]at hR;refine cl qS (cl hww ?_);have mF:=(AP hE).1.changes;have hce:=(AP hE).1.each;obtain⟨E,YZ⟩:∃E,Sj W p=E:=⟨_,rfl⟩;rw[YZ]at hR;unfold Sj at YZ;have ahG:=λi (hi:i<p.pat.changes.length)=>UC hp hE i hi;refine bJ 161 (λi:Nat=>[(2,.ptr 2 0),(3,.ptr 3 0),(4,.ptr 4 0),(6,.ptr 6 0),(12,.ptr 12 0),(13,.p (.int .i64 (i:Int)))]) (λ_=>[(2,aH (ij x)),(3,aH (mT p)),(4,[.full [],.full []]),(6,aH (cD p.id)),(12,aH (ij W))]) (λi=>i<=p.pat.changes.length/\bf (((List.range p.pat.changes.length).drop i).flatMap (JX W p.id p.pat))=E) (λi=>p.pat.changes.length-i) 0 ⟨zL,YZ⟩ kK wS oS ?_;rintro i ⟨hi,EF⟩;refine cq (λhlt=>?_) (λhge=>?_)
 ·rw[bY (by rw[fe];exact hlt),mQ,qz]at EF;have hge:p.pat.changes.getD i default=p.pat.changes[i]:=by rw[dr,ay hlt];rfl
  have hfn:kj p.pat i<=4001*i:=by rw[MJ];exact OZ hce i oO
  obtain⟨T,hT⟩:∃T,((List.range p.pat.changes.length).drop (i+1)).flatMap (JX W p.id p.pat)=T:=⟨_,rfl⟩;rw[hT]at EF;unfold JX at EF;rw[hge]at EF;have hfi:=ahG i hlt;generalize kj p.pat i=n at EF hfn hfi;have hcc:=hce p.pat.changes[i] (aQ _);have hxi:(p.pat.changes.map cC)[((i:Int)).toNat]?=some (cC p.pat.changes[i]):=by rw[jG,aM,ay hlt];rfl
  have fW:=λK (hK:K (cC p.pat.changes[i]))=>ix (f:=cC) (l:=p.pat.changes) (m:=139) (K:=K) hlt hK;generalize p.pat.changes[i]=c at EF hcc fW hxi;obtain⟨g1,g2,g3,-,-,-⟩:=eD hcc;have hml:=Sg c n;refine cl hfi (fW _ (cl (Rj c n g1 g2 oO (λg=>by have :=(g3 g).1;omega)) ?_));generalize cu c n=M at hml;have aoS:M.length<=4001:=by rw[hml];split;rename_i g;have :=(g3 g).1;omega;omega
  refine⟨((n+M.length:Nat):Int),by rw[show(((gI M).length:Nat):Int)=(M.length:Int)from by unfold gI;rw[aj]];rw[wrap64 oO oO];omega,?_⟩;obtain⟨z,hz⟩:∃z:Nat,n+M.length=z+1:=⟨n+M.length-1,by rw[hml];split<;>omega⟩;have hz5:c.kind=5->n+2*c.lines.length=z:=λg=>by rw[hml,ag g]at hz;omega
  rw[hz];refine⟨(z:Int),by rw[wrap64 oO oO];omega,?_⟩;rw[cr]at EF;have hf1:=hfind ⟨p.id,(n:Int)⟩;have YW:=ahF ⟨p.id,(n:Int)⟩;generalize Eo W ⟨p.id,(n:Int)⟩=F1 at hf1 YW EF;obtain⟨F1,b1⟩:=F1;refine cl hf1 (cl YW ?_);generalize sN W (F1,b1).1=e1 at EF;refine cm (λg=>?_) (λg=>?_);have g:e1≠0:=g;rw[eU g]at EF;subst EF;rw[ag g]at hR;rw[<-hR];exact rfl;have g:e1=0:=g;rw[gm g]at EF;refine fW _ (aC (λh5=>?_) (λh5=>?_));rotate_left;have h5:¬c.kind=5:=h5;rw[af h5,dM]at EF;exact nx (i+1) (aT (i+1) ⟨hlt,by rw[hT];exact EF⟩ mM kK wS oS);have h5:c.kind=5:=h5;rw[ag h5,hz5 h5,cr,cr,dM]at EF;have hll:=(g3 h5).1;have KI:=hfind ⟨p.id,((n+c.lines.length:Nat):Int)⟩;have VF:=ahF ⟨p.id,((n+c.lines.length:Nat):Int)⟩;generalize Eo W ⟨p.id,((n+c.lines.length:Nat):Int)⟩=F2 at KI VF EF;obtain⟨F2,b2⟩:=F2;refine⟨.plan ⟨[16],[17],[],[3,6,12]⟩ (.one 0 (.one 1 (.one 2 (.one 3 (.one 4 (.one 5 (.one 6 (.one 7 (.one 8 (.one 9 (.one 10 (.one 11 (.one 12 (.one 13 (.one 14 (.one 15 (.one 16 (.alt 17 (.fin) (.stop))))))))))))))))))) none,kK,?_⟩;refine⟨_,rfl,_,rfl,_,rfl,_,rfl,_,rfl,_,rfl,_,rfl,.p (.imp (cC c)),⟨oO,_,hxi,rfl,rfl⟩,?_⟩;refine⟨_,rfl,_,rfl,_,rfl,?_⟩;refine⟨.p (.int .i64 ((n+c.lines.length:Nat):Int)),⟨_,by rw[show(((c.lines.map mL).length:Nat):Int)=(c.lines.length:Int)from by rw[aj]];rw[wrap64 oO oO];omega,rfl⟩,?_⟩;refine⟨_,rfl,?_⟩;refine⟨.p (.eN [.agg (cA F2),.bool b2]),⟨_,KI,λr hr=>by subst hr;rfl⟩,?_⟩;refine⟨_,rfl,_,rfl,_,rfl,rfl,rfl,cl VF ?_⟩;generalize sN W (F2,b2).1=e2 at EF;refine cm (λg=>?_) (λg=>?_);have g:e2≠0:=g;rw[eU g]at EF;subst EF;rw[ag g]at hR;rw[<-hR];exact rfl;have g:e2=0:=g;rw[gm g]at EF;have hf3:=hfind ⟨p.id,(z:Int)⟩;have hr3:=ahF ⟨p.id,(z:Int)⟩;generalize Eo W ⟨p.id,(z:Int)⟩=F3 at hf3 hr3 EF;obtain⟨F3,b3⟩:=F3;refine cl hf3 (cl hr3 ?_);generalize sN W (F3,b3).1=e3 at EF;refine cm (λg=>?_) (λg=>?_);have g:e3≠0:=g;rw[eU g]at EF;subst EF;rw[ag g]at hR;rw[<-hR];exact rfl;have g:e3=0:=g;rw[gm g]at EF;exact nx (i+1) (aT (i+1) ⟨hlt,by rw[hT];exact EF⟩ mM kK wS oS)
 rw[cZ (by rw[fe];exact jd hge)]at EF;obtain rfl:(0:Int)=E:=EF;rw[af (λc=>c rfl)]at hR;refine aF (λh4=>?_) (λh4=>?_);have h4:((x.pats.map gi).length:Int)≥400:=h4;rw[aj]at h4;rw[ag oO]at hR;rw[<-hR];exact rfl;have h4:¬((x.pats.map gi).length:Int)≥400:=h4;rw[aj]at h4;rw[af oO]at hR;rw[<-hR];exact rfl
theorem Sk:∀(l:List dw)(own:List bR)(i:Nat)(hi:i<l.length),(iG l own).2=0->∃o r,jA l[i] o=0/\o.length=own.length+((l.take i).map λc=>(cu c 0).length).sum/\(iG l own).1=o++cu l[i] o.length++r
 |c::l,own,i,hi,h=>by
  rw[iQ]at h⊢;by_cases h1:cG c≠0;rw[ag h1]at h;exact absurd h h1;rw[af h1]at h⊢;by_cases h2:jA c own≠0;rw[ag h2]at h;exact absurd h h2;rw[af h2]at h⊢;cases i with
  |zero=>obtain⟨r,hr⟩:=As l _ h;exact⟨own,r,cK.1 h2,rfl,hr⟩
  |succ i=>obtain⟨o,r,q1,q2,q3⟩:=Sk l (own++cu c own.length) i (by simpa using hi) h;refine⟨o,r,q1,?_,q3⟩;rw[q2,xd,bB,qq,aA,JT c own.length 0,fL]
theorem ahH {p:gr}(h:sV p){i:Nat}(hi:i<p.changes.length):∃o r,jA p.changes[i] o=0/\o.length=kj p i/\(di p).1=o++cu p.changes[i] o.length++r:=by have h2:=h.YQ;rw[h.SI.all]at h2;obtain⟨o,r,q1,q2,q3⟩:=Sk p.changes [] i hi h2;rw[bt,dF]at q2;exact⟨o,r,q1,q2,by rw[h.SI.all];exact q3⟩
structure Sl (x W:jj)(d:Dg)(p:gr):Prop where
 own:∀(n:Nat) b,(iB p)[n]?=some b->Eo W ⟨d,(n:Int)⟩=(b,true)
 oth:∀i:bQ,i.p≠d->Eo W i=Eo x i
 nk:(Zc W d).1=bC p
theorem Yo {x W:jj}{d:Dg}{p:gr}(h:Sl x W d p){a:bR}(ha:a.id.p=d){i:bQ}(h0:i.p≠aZ)(h1:i.p≠d)(h2:i.p∈bC p)(f:bR->Bool):jq W a i f=iy (gJ x) i f:=by
 have e:vz W a i=(Eo x i).2:=by unfold vz;rw[ha,h.oth i h1,h.nk,ai h1,ah h1,ah h2];simp
 unfold jq iy;rw[e,h.oth i h1,af h0];unfold Eo;cases gJ x i<;>rfl
theorem MN {x W:jj}{d:Dg}{p:gr}(h:Sl x W d p){a:bR}(ha:a.id.p=d){m:Nat}(hm:(m:Int)<a.id.n){b:bR}(hb:(iB p)[m]?=some b){f:bR->Bool}(hf:f b=true):jq W a ⟨d,(m:Int)⟩ f=0:=by
 have e:vz W a ⟨d,(m:Int)⟩=true:=by unfold vz;rw[h.own m b hb,ha,ah rfl,ah hm];rfl
 unfold jq;rw[e,h.own m b hb,af dD,ag hf]
theorem pJ (d:Dg)(a:bR):(cM d a).kind=a.kind:=by
 unfold cM Ks Cj Ci st2 st1;repeat' split
 all_goals rfl
theorem JZ (d:Dg)(a:bR):(cM d a).type=a.type:=by
 unfold cM Ks Cj Ci st2 st1;repeat' split
 all_goals rfl
theorem yh (d:Dg)(a:bR)(h:a.kind≠7):(cM d a).file=aS a.file d:=by
 unfold cM Ks Cj Ci st2 st1;repeat' split
 all_goals first|rfl|(exfalso;simp_all)
theorem Ew {x W:jj}{d:Dg}{p:gr}(h:Sl x W d p)(hq:sV p)(hd:(jB p).1=d)(hn:d∉bC p){c:dw}(hc:c∈p.changes){o r:List bR}(ho:(di p).1=o++r){a:bR}(ha:a.id.p=d)(hm:(o.length:Int)<=a.id.n){i:bQ}(hi:i∈refsOf c){g:Bool}(h1:pY i o.length g=0){f:bR->Bool}(hf:i.p=aZ->g=true->f (cM d (lM o i))=true):jq W a (aS i d) f=iy (gJ x) i f:=by
 by_cases hp:i.p=aZ;have hg:g=true:=by
  unfold pY at h1;by_cases q:sI i o.length=true;rw[ag q]at h1;cases g with
  |true=>rfl
  |false=>rw[ag ⟨hp,rfl⟩]at h1;exact absurd h1 dD
  rw[af q]at h1;exact absurd h1 dD
 have hal:0<=i.n/\i.n<(o.length:Int):=by unfold pY at h1;by_cases q:sI i o.length=true;unfold sI at q;rw[ag hp,bn,decide_eq_true_eq,decide_eq_true_eq]at q;exact q;rw[af q]at h1;exact absurd h1 dD
 have e1:aS i d=⟨d,((i.n.toNat:Nat):Int)⟩:=by rw[show aS i d=⟨d,i.n⟩from ag ⟨hp,hal.1⟩];congr 1;omega
 have hlt:i.n.toNat<o.length:=oO
 have e2:lM o i=o[i.n.toNat]:=by unfold lM;rw[ag ⟨hp,hal⟩,dr,ay hlt];rfl
 have e3:(iB p)[i.n.toNat]?=some (cM d (lM o i)):=by rw[sL hq,hd,aM,ho,cF hlt,ay hlt,e2];rfl
 rw[e1,MN h ha oO e3 (hf hp hg)];exact(ag hp).symm;have hin:=wH hq.ok hc hi hp;rw[show aS i d=i from af λq=>hp q.1];exact Yo h ha hp (λe=>hn (e▸hin)) hin f
theorem Lm (d:Dg)(k:Int)(b:bR):bg k (cM d b)=bg k b:=by unfold bg;rw[pJ,JZ]
theorem acv (d:Dg)(b:bR):jg (cM d b)=jg b:=by unfold jg;rw[pJ,JZ]
theorem acw {d:Dg}{f:bQ}{b:bR}(h:fk f b=true):fk (aS f d) (cM d b)=true:=by unfold fk at h⊢;rw[bn,decide_eq_true_eq,decide_eq_true_eq]at h;rw[pJ,yh d b (by rw[h.1];decide),h.1,h.2,ah rfl,ah rfl];rfl
theorem Yp {d:Dg}{k:Int}(hk:1<=k){f:bQ}{b:bR}(h:dR k f b=true):fF k (aS f d) (cM d b)=true:=by unfold dR zT at h;unfold fF;by_cases h7:k=7;rw[ah h7];rfl;rw[af h7,ai oO,gA,bn,decide_eq_true_eq,decide_eq_true_eq]at h;rw[pJ,yh d b (by rw[h.1];exact h7),h.1,h.2,ah rfl,ah rfl];simp
section
variable {x W:jj}{d:Dg}{p:gr}(hW:Sl x W d p)(hq:sV p)(hd:(jB p).1=d)(hn:d∉bC p){c:dw}(hc:c∈p.changes){o r:List bR}(ho:(di p).1=o++r)(hE:jA c o=0)(hx:∀i b,gJ x i=some b->b.id=i){a:bR}(ha:a.id.p=d)(hm:(o.length:Int)<=a.id.n)
include hW hq hd hn hc ho hE hx ha hm
theorem Sm (hk:2<=c.kind/\c.kind<=6){k:Int}(he:bg k=bg c.kind):jq W a (aS c.file d) (bg k)=stepG (gJ x) d (aS c.file d,bg k):=by have hR:=nh hq hn hc hx;have h1:=fE.1 hE _ (by unfold vr;exact .head _);rw[ag hk]at h1;rw[he,Ew hW hq hd hn hc ho ha hm (i:=c.file) (by unfold refsOf;simp) h1 (λ_ g=>by rw[Lm];exact g)];exact(uH (hR.own _ (by simp)) (hR.ne _ (by unfold refsOf;simp)) _).symm
theorem afj (hk:c.kind=2)(hp:aS c.parent d≠iS):jq W a (aS c.parent d) jg=stepG (gJ x) d (aS c.parent d,jg):=by have hR:=nh hq hn hc hx;have hp2:c.parent≠iS:=λe=>hp (by rw[e];rfl);have h1:=fE.1 hE _ (by unfold vr;exact .tail _ (.head _));rw[ag ⟨hk,hp2⟩]at h1;rw[Ew hW hq hd hn hc ho ha hm (i:=c.parent) (by unfold refsOf;simp) h1 (λ_ g=>by rw[acv];exact g)];exact(uH (λq=>(hR.par q).elim (λe=>absurd e hp2) id) (hR.ne _ (by unfold refsOf;simp)) _).symm
theorem HD (hk:fC c.kind=true){i:bQ}(hi:i=c.cQ\/i=c.dc):jq W a (aS i d) (wJ (aS c.file d) (aS i d))=stepG (gJ x) d (aS i d,qM (aS c.file d)):=by
 have hR:=nh hq hn hc hx;have hin:i∈refsOf c:=by unfold refsOf;rcases hi with rfl|rfl<;>simp
 have al8:i∈c.file::c.cQ::c.dc::c.over:=by rcases hi with rfl|rfl<;>simp
 have h1:pY i o.length (decide (i=c.file)||fk c.file (lM o i))=0:=by rcases hi with rfl|rfl;have :=fE.1 hE _ (by unfold vr;exact .tail _ (.tail _ (.head _)));rw[ag hk]at this;exact this;have :=fE.1 hE _ (by unfold vr;exact .tail _ (.tail _ (.tail _ (.head _))));rw[ag hk]at this;exact this
 rw[Ew hW hq hd hn hc ho ha hm hin h1 (λ_ g=>by unfold wJ;by_cases e:i=c.file;rw[e,ah rfl];rfl;rw[ai e,gA]at g;rw[acw g];simp)];rw[uH (hR.own _ al8) (hR.ne _ hin)];unfold iy;by_cases hp:i.p=aZ;rw[ag hp,ag hp];rw[af hp,af hp];cases hL:gJ x i with
 |none=>rfl
 |some b=>show(if wJ _ _ b=true then(0:Int)else 8)=if qM _ b=true then 0 else 8;unfold wJ qM;rw[hx _ _ hL,show aS i d=i from af λq=>hp q.1]
theorem Sn {i:bQ}(hi:i∈DV d c.over):jq W a i (fF c.kind (aS c.file d))=stepG (gJ x) d (i,fF c.kind (aS c.file d)):=by have hR:=nh hq hn hc hx;unfold DV at hi;rw[Fq]at hi;rcases hi with hi|hi;obtain⟨y,hy,rfl⟩:=aJ.1 hi;have h1:=fE.1 hE (pY y o.length (dR c.kind c.file (lM o y))) (by unfold vr;simp only[aL,bk,aJ];exact .inr (.inr (.inr (.inr (.inl ⟨y,hy,rfl⟩)))));rw[Ew hW hq hd hn hc ho ha hm (i:=y) (by unfold refsOf;simp[hy]) h1 (λ_ g=>Yp hR.clean.lo g)];exact(uH (hR.own _ (by simp[hy])) (hR.ne _ (by unfold refsOf;simp[hy])) _).symm;cases hi
end
theorem acy {d:Dg}{i j:bQ}(hi:i.p≠aZ->i.p≠d)(hj:j.p≠aZ->j.p≠d)(h:aS i d=aS j d):i=j:=by obtain⟨ip,im⟩:=i;obtain⟨jp,jm⟩:=j;unfold aS at h;simp only at h hi hj;split at h;rename_i g;split at h;rename_i g2;have :=aY bQ.n h;simp only at this;rw[g.1,g2.1,this];rename_i g2;have h1:=aY bQ.p h;have h2:=aY bQ.n h;simp only at h1 h2;exact absurd h1.symm (hj λe=>g2 ⟨e,h2▸g.2⟩);rename_i g;split at h;rename_i g2;have h1:=aY bQ.p h;have h2:=aY bQ.n h;simp only at h1 h2;exact absurd h1 (hi λe=>g ⟨e,h2▸g2.2⟩);exact h
theorem MO (l:List Int):bf (l++[0,0])=bf l:=by rw[kn];split;rfl;rename_i h;rw[cK.1 h];rfl
theorem UE {W:jj}{L:bQ->Option bR}{d:Dg}{a:bR}(h1:a.kind≠1)(h7:a.kind<=7)(e20:¬(a.kind=2/\a.parent=a.file))(e1:¬(a.kind=6/\a.fr=a.to))(hf:a.kind≠7->jq W a a.file (bg a.kind)=stepG L d (a.file,bg a.kind))(hp:a.kind=2->a.parent≠iS->jq W a a.parent jg=stepG L d (a.parent,jg))(he:a.kind=6->jq W a a.fr (wJ a.file a.fr)=stepG L d (a.fr,qM a.file)/\jq W a a.to (wJ a.file a.to)=stepG L d (a.to,qM a.file))(ho:∀i,i∈a.over->jq W a i (fF a.kind a.file)=stepG L d (i,fF a.kind a.file)):sN W a=bf ((oQ a).map (stepG L d)):=by unfold sN;rw[af h1,af e20,af e1,<-bq,<-bq,<-bq,MO];congr 1;unfold oQ;rw[aD,aD,aD,bq,bq];congr 1;by_cases g:a.kind=7;rw[af oO,af (λq=>q.2 g)];rfl;rw[ag oO,ag ⟨h1,g⟩,hf g];rfl;congr 1;by_cases g:a.kind=2/\a.parent≠iS;rw[ag g,ag g,hp g.1 g.2];rfl;rw[af g,af g];rfl;congr 1;by_cases g:a.kind=6;rw[ag g,ag g,(he g).1,(he g).2];rfl;rw[af g,af g];rfl;rw[fP];exact en ho
section
variable (c:dw)(d:Dg)(n:Nat)
theorem ahI:(cM d (dU c n)).id=⟨d,(n:Int)⟩:=by
 rw[Ej];unfold dU;repeat' split
 all_goals rfl
theorem Sq (h1:1<=c.kind)(h7:c.kind<=7)(h5:c.kind≠5):(cM d (dU c n)).kind=c.kind:=by
 rw[pJ];unfold dU;repeat' split
 all_goals first|(symm;assumption)|(show(7:Int)=_;omega)
theorem Ex (h1:2<=c.kind)(h7:c.kind<=6)(h5:c.kind≠5):(cM d (dU c n)).file=aS c.file d:=by
 have hk:=Sq c d n oO oO h5;rw[pJ]at hk;rw[yh _ _ oO];unfold dU;repeat' split
 all_goals first|rfl|(exfalso;omega)
theorem Wh (h:c.kind=2):(cM d (dU c n)).parent=aS c.parent d:=by simp[cM,dU,st1,st2,Ci,Cj,Ks,h]
theorem acz (h:c.kind=6):(cM d (dU c n)).fr=aS c.cQ d:=by simp[cM,dU,st1,st2,Ci,Cj,Ks,h]
theorem acA (h:c.kind=6):(cM d (dU c n)).to=aS c.dc d:=by simp[cM,dU,st1,st2,Ci,Cj,Ks,h]
theorem acB (h:c.kind≠1):(cM d (dU c n)).over=DV d c.over:=by
 rw[Cm];unfold dU;repeat' split
 all_goals first|rfl|(exfalso;omega)
end
section
variable {x W:jj}{d:Dg}{p:gr}(hW:Sl x W d p)(hq:sV p)(hd:(jB p).1=d)(hn:d∉bC p){c:dw}(hc:c∈p.changes){o r:List bR}(ho:(di p).1=o++r)(hE:jA c o=0)(hx:∀i b,gJ x i=some b->b.id=i)
include hW hq hd hn hc ho hE hx
theorem acC (h5:c.kind≠5):sN W (cM d (dU c o.length))=bf ((oQ (sX d c o.length)).map (stepG (gJ x) d)):=by
 have hR:=nh hq hn hc hx;have hlo:=hR.clean.lo;have hhi:=hR.clean.hi;have hH:sX d c o.length=cM d (dU c o.length):=by unfold sX cu;simp only[af h5];rfl
 rw[hH];have k1:=ahI c d o.length;have k2:=Sq c d o.length hlo hhi h5;have ha:(cM d (dU c o.length)).id.p=d:=by rw[k1]
 have hm:(o.length:Int)<=(cM d (dU c o.length)).id.n:=by rw[k1];exact Int.le_refl _
 by_cases e1:c.kind=1;have Aa:c.over=[]:=hR.clean.over (.inl e1);have e:oQ (cM d (dU c o.length))=[]:=by rw[<-hH,Cz hR.clean hR.lines];simp[e1,Aa,DV]
 rw[e];have hf:(cM d (dU c o.length)).file=(cM d (dU c o.length)).id:=by rw[k1,yh _ _ (by rw[pJ]at k2;omega)];unfold dU;rw[ag e1];exact ag ⟨rfl,tM _⟩
 unfold sN;rw[ag (by rw[k2];exact e1),af (λg=>g hf)];rfl;have kO:=acB c d o.length e1;refine UE (by rw[k2];exact e1) (by rw[k2];exact hhi) ?_ ?_ ?_ ?_ ?_ ?_;rw[k2];rintro⟨g,e⟩;rw[Wh c d _ g,Ex c d _ oO oO h5]at e;have e:=acy (hR.ne _ (by unfold refsOf;simp)) (hR.ne _ (by unfold refsOf;simp)) e;have :=fE.1 hE (if c.kind=2/\c.parent=c.file then 20 else 0) (by unfold vr;simp);rw[ag ⟨g,e⟩]at this;exact absurd this dD;rw[k2];rintro⟨g,e⟩;rw[acz c d _ g,acA c d _ g]at e;have e:=acy (hR.ne _ (by unfold refsOf;simp)) (hR.ne _ (by unfold refsOf;simp)) e;have :=fE.1 hE (if fC c.kind=true/\c.cQ=c.dc/\(c.kind=6\/c.cQ≠c.file)then 1 else 0) (by unfold vr;simp);rw[ag ⟨by unfold fC;rw[g];rfl,e,.inl g⟩]at this;exact absurd this dD;rw[k2];intro g;rw[Ex c d _ oO oO h5];exact Sm hW hq hd hn hc ho hE hx ha hm oO rfl;rw[k2];intro g;rw[Wh c d _ g];exact afj hW hq hd hn hc ho hE hx ha hm g;rw[k2];intro g;rw[acz c d _ g,acA c d _ g,Ex c d _ oO oO h5];have ht:fC c.kind=true:=by unfold fC;rw[g];rfl
 exact⟨HD hW hq hd hn hc ho hE hx ha hm ht (.inl rfl),HD hW hq hd hn hc ho hE hx ha hm ht (.inr rfl)⟩;rw[k2,kO];intro i hi;by_cases g7:c.kind=7;have e:∀f:bQ,fF c.kind f=fF c.kind (aS c.file d):=λf=>by funext b;unfold fF;simp[g7]
 rw[e];exact Sn hW hq hd hn hc ho hE hx ha hm hi;rw[Ex c d _ oO oO h5];exact Sn hW hq hd hn hc ho hE hx ha hm hi
end
theorem Wi {p:gr}(hq:sV p){d:Dg}(hd:(jB p).1=d){c:dw}{o r:List bR}(ho:(di p).1=o++cu c o.length++r){j:Nat}{m:bR}(hm:(cu c o.length)[j]?=some m):(iB p)[o.length+j]?=some (cM d m):=by have hlt:j<(cu c o.length).length:=(aI.1 hm).1;rw[sL hq,hd,aM,ho,bq,dN oO,Nat.add_sub_cancel_left,cF hlt,hm];rfl
theorem MP {c:dw}(h5:c.kind=5){n j:Nat}(hj:j<c.lines.length):(cu c n)[j]?=some (nK c.file n c.lines j):=by unfold cu;rw[ag h5,cF (by rw[aj,fe];exact hj),aM,qt hj];rfl
theorem MQ {c:dw}(h5:c.kind=5){n j:Nat}(hj:j<=c.lines.length):(cu c n)[c.lines.length+j]?=some (kD c.file c.cQ c.dc n c.lines.length j):=by unfold cu;rw[ag h5,dN (by rw[aj,fe];omega),aj,fe,Nat.add_sub_cancel_left,aM,qt oO];rfl
theorem yj (e:Int):bf [e]=e:=by unfold bf bf;split<;>simp_all
theorem UF (f a b:Int):bf [bf [f],bf [f,a],bf [f,b]]=bf [f,a,b]:=by rw[yj];by_cases h:f=0;subst h;rw[gm rfl,gm rfl,gm rfl,yj,yj,gm rfl];rw[eU h,eU h]
theorem MR (d:Dg)(f:bQ)(n:Nat)(ls:List Bytes)(j:Nat):cM d (nK f n ls j)=⟨⟨d,((n+j:Nat):Int)⟩,5,aS f d,0,aP,[],0,[],ls.getD j [],aP,aP,[]⟩:=by simp[cM,nK,cw,st1,st2,Ci,Cj,Ks,DV]
theorem MS (d:Dg)(n:Nat):aS (cw (n:Int)) d=⟨d,(n:Int)⟩:=ag ⟨rfl,tM _⟩
theorem MT (d:Dg)(f a b:bQ)(n k j:Nat):cM d (kD f a b n k j)=⟨⟨d,((n+k+j:Nat):Int)⟩,6,aS f d,0,aP,[],0,[],[],if 0<j then⟨d,((n+j-1:Nat):Int)⟩else aS a d,if j<k then⟨d,((n+j:Nat):Int)⟩else aS b d,[]⟩:=by
 have e1:aS (if 0<j then cw ((n+j-1:Nat):Int)else a) d=if 0<j then⟨d,((n+j-1:Nat):Int)⟩else aS a d:=by split;exact MS _ _;rfl
 have e2:aS (if j<k then cw ((n+j:Nat):Int)else b) d=if j<k then⟨d,((n+j:Nat):Int)⟩else aS b d:=by split;exact MS _ _;rfl
 rw[<-e1,<-e2];simp[cM,kD,cw,st1,st2,Ci,Cj,Ks,DV]
section
variable {x W:jj}{d:Dg}{p:gr}(hW:Sl x W d p)(hq:sV p)(hd:(jB p).1=d)(hn:d∉bC p){c:dw}(hc:c∈p.changes){o r:List bR}(ho:(di p).1=o++cu c o.length++r)(hE:jA c o=0)(hx:∀i b,gJ x i=some b->b.id=i)
include hW hq hd hn hc ho hE hx
theorem acD (hk:fC c.kind=true){i:bQ}(hi:i=c.cQ\/i=c.dc){m:Nat}(hm:o.length<=m):aS i d≠⟨d,(m:Int)⟩:=by
 intro e;have hR:=nh hq hn hc hx;have h1:∃g,pY i o.length g=0:=by rcases hi with rfl|rfl;have :=fE.1 hE _ (by unfold vr;exact .tail _ (.tail _ (.head _)));rw[ag hk]at this;exact⟨_,this⟩;have :=fE.1 hE _ (by unfold vr;exact .tail _ (.tail _ (.tail _ (.head _))));rw[ag hk]at this;exact⟨_,this⟩
 obtain⟨g,h1⟩:=h1;have hin:i∈refsOf c:=by unfold refsOf;rcases hi with rfl|rfl<;>simp
 by_cases hp:i.p=aZ;have hal:0<=i.n/\i.n<(o.length:Int):=by unfold pY at h1;by_cases q:sI i o.length=true;unfold sI at q;rw[ag hp,bn,decide_eq_true_eq,decide_eq_true_eq]at q;exact q;rw[af q]at h1;exact absurd h1 dD
 rw[show aS i d=⟨d,i.n⟩from ag ⟨hp,hal.1⟩]at e;have :=aY bQ.n e;simp only at this;omega;rw[show aS i d=i from af λq=>hp q.1]at e;exact hR.ne i hin hp (aY bQ.p e)
theorem Yq (h5:c.kind=5):bf [sN W (cM d (nK c.file o.length c.lines 0)),sN W (cM d (kD c.file c.cQ c.dc o.length c.lines.length 0)),sN W (cM d (kD c.file c.cQ c.dc o.length c.lines.length c.lines.length))]=bf ((oQ (sX d c o.length)).map (stepG (gJ x) d)):=by
 have hR:=nh hq hn hc hx;have YU:0<c.lines.length:=by
  cases hl:c.lines with
  |nil=>exact absurd hl (hR.lines h5)
  |cons a b=>exact qL _
 have ht:fC c.kind=true:=by unfold fC;rw[h5];rfl
 have Aa:c.over=[]:=hR.clean.over (.inr h5);have h56:bg 5=bg 6:=by funext x;simp[bg,fC]
 have ho':(di p).1=o++(cu c o.length++r):=by rw[ho,bq]
 have agf:∀(a:bR)(j:Nat),a.id.p=d->j<c.lines.length->((o.length+j:Nat):Int)<a.id.n->∀i:bQ,jq W a ⟨d,((o.length+j:Nat):Int)⟩ (wJ (aS c.file d) i)=0:=λa j ha hj hm i=>by refine MN hW ha hm (Wi hq hd ho (MP h5 hj)) ?_;rw[MR];unfold wJ fk;simp
 have eR:oQ (sX d c o.length)=[(aS c.file d,bg 5),(aS c.cQ d,qM (aS c.file d)),(aS c.dc d,qM (aS c.file d))]:=by rw[Cz hR.clean hR.lines];simp[h5,Aa,DV]
 rw[eR,bB,bB,bB,fM];have hf:∀(a:bR)(k:Int),a.id.p=d->(o.length:Int)<=a.id.n->bg k=bg 5->jq W a (aS c.file d) (bg k)=stepG (gJ x) d (aS c.file d,bg 5):=λa k ha hm he=>by rw[Sm hW hq hd hn hc ho' hE hx ha hm oO (k:=k) (by rw[he,h5]),he]
 have q1:sN W (cM d (nK c.file o.length c.lines 0))=bf [stepG (gJ x) d (aS c.file d,bg 5)]:=by rw[MR];generalize ha:(⟨⟨d,((o.length+0:Nat):Int)⟩,5,aS c.file d,0,aP,[],0,[],c.lines.getD 0 [],aP,aP,[]⟩:bR)=a;have :=hf a 5 (by rw[<-ha]) (by rw[<-ha];simp) rfl;unfold sN;rw[show a.kind=5 by rw[<-ha],show a.file=aS c.file d by rw[<-ha],show a.over=[]by rw[<-ha],this];simp;rw[show([stepG (gJ x) d (aS c.file d,bg 5),0,0]:List Int)=[stepG (gJ x) d (aS c.file d,bg 5)]++[0,0]from rfl,MO]
 have q2:sN W (cM d (kD c.file c.cQ c.dc o.length c.lines.length 0))=bf [stepG (gJ x) d (aS c.file d,bg 5),stepG (gJ x) d (aS c.cQ d,qM (aS c.file d))]:=by
  rw[MT];rw[af (qG 0),ag YU];generalize ha:(⟨⟨d,((o.length+c.lines.length+0:Nat):Int)⟩,6,aS c.file d,0,aP,[],0,[],[],aS c.cQ d,⟨d,((o.length+0:Nat):Int)⟩,[]⟩:bR)=a;have hp:a.id.p=d:=by rw[<-ha]
  have hm:(o.length:Int)<=a.id.n:=by rw[<-ha];show(o.length:Int)<=((o.length+c.lines.length+0:Nat):Int);omega
  have e1:=hf a 6 hp hm h56.symm;have e2:=HD hW hq hd hn hc ho' hE hx hp hm ht (.inl rfl);have e3:=agf a 0 hp YU (by rw[<-ha];show((o.length+0:Nat):Int)<((o.length+c.lines.length+0:Nat):Int);omega) ⟨d,((o.length+0:Nat):Int)⟩;have e4:=acD hW hq hd hn hc ho hE hx ht (.inl rfl) (m:=o.length+0) (aB _);unfold sN;rw[show a.kind=6 by rw[<-ha],show a.file=aS c.file d by rw[<-ha],show a.over=[]by rw[<-ha],show a.fr=aS c.cQ d by rw[<-ha],show a.to=⟨d,((o.length+0:Nat):Int)⟩by rw[<-ha],e1,e2,e3];rw[af dD,ag dD,af (λq=>absurd q.1 dD),ag rfl,af (λq=>absurd q.1 dD),af (λq=>e4 q.2)];show bf [_,_,0,0,0]=bf [_,_];rw[show∀a b:Int,([a,b,0,0,0]:List Int)=[a,b]++[0,0,0]fromλ_ _=>rfl,kn];split;rfl;rename_i q;rw[cK.1 q];rfl
 have q3:sN W (cM d (kD c.file c.cQ c.dc o.length c.lines.length c.lines.length))=bf [stepG (gJ x) d (aS c.file d,bg 5),stepG (gJ x) d (aS c.dc d,qM (aS c.file d))]:=by
  rw[MT];rw[ag YU,af (qG _)];have e0:o.length+c.lines.length-1=o.length+(c.lines.length-1):=oO
  rw[e0];generalize ha:(⟨⟨d,((o.length+c.lines.length+c.lines.length:Nat):Int)⟩,6,aS c.file d,0,aP,[],0,[],[],⟨d,((o.length+(c.lines.length-1):Nat):Int)⟩,aS c.dc d,[]⟩:bR)=a;have hp:a.id.p=d:=by rw[<-ha]
  have hm:(o.length:Int)<=a.id.n:=by rw[<-ha];show(o.length:Int)<=((o.length+c.lines.length+c.lines.length:Nat):Int);omega
  have e1:=hf a 6 hp hm h56.symm;have e2:=HD hW hq hd hn hc ho' hE hx hp hm ht (.inr rfl);have e3:=agf a (c.lines.length-1) hp oO (by rw[<-ha];show((o.length+(c.lines.length-1):Nat):Int)<((o.length+c.lines.length+c.lines.length:Nat):Int);omega) ⟨d,((o.length+(c.lines.length-1):Nat):Int)⟩;have e4:=acD hW hq hd hn hc ho hE hx ht (.inr rfl) (m:=o.length+(c.lines.length-1)) (Nat.le_add_right _ _);unfold sN;rw[show a.kind=6 by rw[<-ha],show a.file=aS c.file d by rw[<-ha],show a.over=[]by rw[<-ha],show a.fr=⟨d,((o.length+(c.lines.length-1):Nat):Int)⟩by rw[<-ha],show a.to=aS c.dc d by rw[<-ha],e1,e2,e3];rw[af dD,ag dD,af (λq=>absurd q.1 dD),ag rfl,af (λq=>absurd q.1 dD),af (λq=>e4 q.2.symm)];show bf [_,0,_,0,0]=bf [_,_];generalize stepG (gJ x) d (aS c.file d,bg 5)=A;generalize stepG (gJ x) d (aS c.dc d,qM (aS c.file d))=B;by_cases hA:A=0;rw[gm hA,gm rfl,gm hA];by_cases hB:B=0;rw[gm hB,hB];rfl;rw[eU hB,eU hB];rw[eU hA,eU hA]
 rw[q1,q2,q3];exact UF _ _ _
end
def UG {α:Type}(gt:α->Bool)(new:List α):List α->List α|[]=>new|y::l=>if gt y=true then new++y::l else y::UG gt new l
theorem MU {α:Type}(gt:α->Bool)(new:List α):∀(l acc:List α),l.foldl (wK gt new) (acc,true)=(acc++l,true)
 |[],acc=>by rw[bh];rfl
 |y::l,acc=>by rw[fN,show wK gt new (acc,true) y=(acc++[y],true)from rfl,MU gt new l,bq];rfl
theorem Ka {α:Type}(gt:α->Bool)(new:List α):∀(l acc:List α),(if(l.foldl (wK gt new) (acc,false)).2 then(l.foldl (wK gt new) (acc,false)).1 else(l.foldl (wK gt new) (acc,false)).1++new)=acc++UG gt new l
 |[],acc=>rfl
 |y::l,acc=>by
  rw[fN];unfold UG;cases h:gt y with
  |true=>rw[show wK gt new (acc,false) y=(acc++new++[y],true)by unfold wK;rw[h];rfl,MU,ag rfl,ag rfl];simp
  |false=>rw[show wK gt new (acc,false) y=(acc++[y],false)by unfold wK;rw[h];rfl,Ka gt new l,af dD];simp
theorem MV {α:Type}(gt:α->Bool)(new l:List α):pI gt new l=UG gt new l:=by have :=Ka gt new l [];rw[dM]at this;rw[<-this];unfold pI gG;rw[aV]
theorem FG {α:Type}{gt:α->Bool}{le:α->α->Bool}{new:List α}:∀{l:List α},(∀y,y∈l->gt y=false->∀b,b∈new->le y b=true)->(∀y,y∈l->gt y=true->∀b,b∈new->le y b=false)->l.Pairwise (λa b=>gt a=true->gt b=true)->UG gt new l=l.merge new le
 |[],_,_,_=>by simp[UG]
 |y::l,h1,h2,h3=>by
  have h3:=dS.1 h3;unfold UG;cases h:gt y with
  |true=>rw[ag rfl,yc (λa ha=>h2 a ha (by rcases aL.1 ha with rfl|ha;exact h;exact h3.1 a ha h))]
  |false=>rw[af dD,FG (λa ha=>h1 a (.tail _ ha)) (λa ha=>h2 a (.tail _ ha)) h3.2];have :=vw (le:=le) (l:=new) (A:=[y]) (B:=l) (λa ha=>by rw[aO.1 ha];exact h1 y (.head _) h);exact this.symm
structure UH (x:jj):Prop where
 pats:x.pats.Pairwise λa b=>dy a.id b.id<0
 atoms:x.atoms.Pairwise λa b=>gb a.id b.id<0
 own:∀a,a∈x.atoms->a.id.p∈lN x
 ahJ:∀k,k∈x.pats->k.id∉k.cS
theorem ahK {a b:bQ}(h:gb a b<0):dy a.p b.p<=0:=by unfold gb at h;split at h;omega;rename_i g;have :=cK.1 g;omega
theorem acE {x:jj}(hv:UH x){k:yb}{l:List bR}(hl:∀a,a∈l->a.id.p=k.id)(hk:k.id∉lN x):GF x k l=sW x k.id k.cS l:=by unfold GF sW;rw[MV,MV];congr 1;refine FG (λy hy hg b hb=>?_) (λy hy hg b hb=>?_) (hv.pats.imp λ{a b} hab hg=>?_);rw[aO.1 hb];have :=qH hg;exact ah (show dy y.id k.id<=0 by omega);rw[aO.1 hb];have :=dn hg;exact ai (show¬dy y.id k.id<=0 by omega);have hg:=dn hg;have h1:=iI a.id k.id;have h2:=iI b.id k.id;have :=gF (a:=k.id) (b:=a.id) (c:=b.id) oO hab;exact ah oO;refine FG (λy hy hg b hb=>?_) (λy hy hg b hb=>?_) (hv.atoms.imp λ{a b} hab hg=>?_);have hg:=qH hg;have hne:y.id.p≠k.id:=λe=>hk (e▸hv.own y hy);have :dy y.id.p k.id≠0:=λe=>hne (jo e);have :=AW (a:=y.id) (b:=b.id) (by rw[hl b hb];omega);exact ah (show gb y.id b.id<=0 by omega);have hg:=dn hg;have h1:=iI y.id.p k.id;have :=AW (a:=b.id) (b:=y.id) (by rw[hl b hb];omega);have :=ov y.id b.id;exact ai (show¬gb y.id b.id<=0 by omega);have hg:=dn hg;have hab:=ahK hab;have h1:=iI a.id.p k.id;have h2:=iI b.id.p k.id;by_cases e:dy a.id.p b.id.p=0;exact ah (by rw[<-jo e];omega);have :=gF (a:=k.id) (b:=a.id.p) (c:=b.id.p) oO oO;exact ah oO
theorem Yr {x:jj}(hv:UH x)(d:Dg):Eu x d=vC x d:=by
 unfold Eu vC;have e:x.pats.any (He d)=x.pats.any λk=>decide (d∈k.cS):=by rw[ot,eA,eA];refine⟨λ⟨k,hk,h⟩=>⟨k,hk,?_⟩,λ⟨k,hk,h⟩=>⟨k,hk,?_⟩⟩;unfold He at h;rw[bn]at h;exact h.2;unfold He;rw[bn];refine⟨ah λe=>?_,h⟩;have :=dn h;exact hv.ahJ k hk (e▸this)
 rw[e]
theorem Wl {p:gr}(hq:sV p){d:Dg}(hd:(jB p).1=d){n:Nat}{b:bR}(h:(iB p)[n]?=some b):b.id=⟨d,(n:Int)⟩:=by
 rw[sL hq,hd,aM]at h;have hn:=ya hq;cases e:(di p).1[n]?with
 |none=>rw[e]at h;cases h
 |some z=>rw[e]at h;obtain rfl:cM d z=b:=aq h;obtain⟨hlt,rfl⟩:=aI.1 e;rw[Ej,hn n hlt]
theorem Yt {x:jj}(hv:UH x){p:gr}(hq:sV p){d:Dg}(hd:(jB p).1=d)(hk:d∉lN x):Sl x (sW x d (bC p) (iB p)) d p:=by
 have hown:∀a,a∈iB p->a.id.p=d:=λa ha=>by rw[OQ hq a ha,hd]
 have ET:∀a,a∈x.atoms->a.id.p≠d:=λa ha e=>hk (e▸hv.own a ha);have Ti:∀a b,a∈x.atoms->b∈x.atoms->a.id=b.id->a=b:=λa b ha hb e=>by obtain⟨i,hi,rfl⟩:=fS ha;obtain⟨j,hj,rfl⟩:=fS hb;rcases Ey i j with q|q|q;have :=iH.1 hv.atoms i j hi hj q;rw[e]at this;exact absurd this (pS _);subst q;rfl;have :=iH.1 hv.atoms j i hj hi q;rw[e]at this;exact absurd this (pS _)
 refine⟨λn b hb=>?_,λi hi=>?_,?_⟩;have hid:=Wl hq hd hb;have :gJ (sW x d (bC p) (iB p)) ⟨d,(n:Int)⟩=some b:=by
  refine uf (lF.2 (.inr (bW hb))) (ah hid) λc hc hP=>?_;have hP:=dn hP;rcases lF.1 hc with hc|hc;exact absurd (by rw[hP]) (ET c hc);obtain⟨m,hm,rfl⟩:=fS hc;have h2:=Wl hq hd (ay hm);rw[h2]at hP;have :=aY bQ.n hP;simp only at this;obtain rfl:m=n:=oO
  rw[ay hm]at hb;exact aq hb
 unfold Eo;rw[this];have :gJ (sW x d (bC p) (iB p)) i=gJ x i:=by
  cases e:gJ x i with
  |some a=>have hm:=lD e;have hP:=jN e;refine uf (lF.2 (.inl hm)) hP λc hc hQ=>?_;have hQ:=dn hQ;have hP:=dn hP;rcases lF.1 hc with hc|hc;exact Ti c a hc hm (by rw[hQ,hP]);exact absurd (by rw[<-hown c hc,hQ]) hi
  |none=>refine ow.2 λc hc hQ=>?_;rcases lF.1 hc with hc|hc;exact ow.1 e c hc hQ;exact hi (by rw[<-dn hQ,hown c hc])
 unfold Eo;rw[this];have :(sW x d (bC p) (iB p)).pats.find? (λk=>decide (k.id=d))=some ⟨d,bC p⟩:=by refine uf (lF.2 (.inr (aO.2 rfl))) (ah rfl) λc hc hQ=>?_;have hQ:=dn hQ;rcases lF.1 hc with hc|hc;exact absurd (aJ.2 ⟨c,hc,hQ⟩) hk;exact aO.1 hc
 unfold Zc;rw[this]
theorem GH {α:Type}{f g:α->List Int}:∀{l:List α},(∀y,y∈l->bf (f y)=bf (g y))->bf (l.flatMap f)=bf (l.flatMap g)|[],_=>rfl|y::l,h=>by rw[mQ,mQ,kn,kn,h y (.head _),GH λz hz=>h z (.tail _ hz)]
theorem Kc (x:jj):∀i b,gJ x i=some b->b.id=i:=λi b h=>by unfold gJ at h;have :=jN h;exact dn this
theorem ahM {x W:jj}{p:fD}(hW:Sl x W p.id p.pat)(hq:sV p.pat)(hd:(jB p.pat).1=p.id)(hn:p.id∉bC p.pat):Sj W p=Lh x p:=by
 unfold Sj Lh;refine GH λi hi=>?_;have hi:=fO.1 hi;obtain⟨o,r,hE,hl,ho⟩:=ahH hq hi;have hc:p.pat.changes[i]∈p.pat.changes:=aQ _;rw[RZ hq hi p.id hd];have hg:p.pat.changes.getD i default=p.pat.changes[i]:=by rw[dr,ay hi];rfl
 unfold JX;rw[hg];have hR:=nh hq hn hc (Kc x);rw[<-hl];generalize p.pat.changes[i]=c at hE ho hc hR;have ho':(di p.pat).1=o++(cu c o.length++r):=by rw[ho,bq]
 have qS:∀(j:Nat)(m:bR),(cu c o.length)[j]?=some m->Eo W ⟨p.id,((o.length+j:Nat):Int)⟩=(cM p.id m,true):=λj m hm=>hW.own _ _ (Wi hq hd ho hm);by_cases h5:c.kind=5;have YU:0<c.lines.length:=by
  cases hl:c.lines with
  |nil=>exact absurd hl (hR.lines h5)
  |cons a b=>exact qL _
 rw[ag h5];have e1:=qS 0 _ (MP h5 YU);have e2:=qS c.lines.length _ (MQ (j:=0) h5 (nR _));have e3:=qS (2*c.lines.length) _ (by rw[show 2*c.lines.length=c.lines.length+c.lines.length by omega];exact MQ (j:=c.lines.length) h5 (aB _));rw[qi]at e1;rw[e1,e2,e3];exact Yq hW hq hd hn hc ho hE (Kc x) h5;rw[af h5];have e1:=qS 0 (dU c o.length) (by unfold cu;rw[af h5];rfl);rw[qi]at e1;rw[e1,yj];exact acC hW hq hd hn hc ho' hE (Kc x) h5
theorem acH {x:jj}(hv:UH x){p:fD}(hq:(jB p.pat).2=0->sV p.pat):JY x p=qN x p:=by
 unfold JY qN;by_cases h1:(jB p.pat).2≠0;rw[ag h1,ag h1];rw[af h1,af h1];have hq:=hq (cK.1 h1);by_cases h2:(jB p.pat).1≠p.id;rw[ag h2,ag h2];rw[af h2,af h2];have h2:=cK.1 h2;by_cases h3:p.id∈lN x;rw[ag h3,ag h3];rw[af h3,af h3];by_cases h4:mV (lN x) (bC p.pat)=false;rw[ag h4,ag h4];rw[af h4,af h4];have hn:p.id∉bC p.pat:=λe=>by
  have h4:mV (lN x) (bC p.pat)=true:=by simpa using h4
  have :=dn (bD.1 h4 _ e);exact h3 this
 have hown:∀a,a∈iB p.pat->a.id.p=p.id:=λa ha=>by rw[OQ hq a ha,h2]
 rw[acE (k:=⟨p.id,bC p.pat⟩) hv hown h3];show(if Sj (sW x p.id (bC p.pat) (iB p.pat)) p≠0 then(iU,Sj (sW x p.id (bC p.pat) (iB p.pat)) p)else if 400<=x.pats.length then(iU,4)else(sW x p.id (bC p.pat) (iB p.pat),0))=_;rw[ahM (Yt hv hq h2 h3) hq h2 hn];rfl
end Qv
