/- Part 29 of the proof: its lemmas. No condition. -/
import Derived.Test.YtiboombocnfngaaGreatDoorX2
import Derived.Test.YtiboombocnfngaaGreatDoorX3
import Derived.Test.YtiboombocnfngaaGreatDoorX7
import Derived.Test.YtiboombocnfngaaGreatDoorX9
import Derived.Test.YtiboombocnfngaaGreatDoorX18
import Derived.Test.YtiboombocnfngaaGreatDoorX19
import Derived.Test.YtiboombocnfngaaGreatDoorX20
import Derived.Test.YtiboombocnfngaaGreatDoorX21
import Derived.Test.YtiboombocnfngaaGreatDoorX22
set_option maxRecDepth 10000
set_option maxHeartbeats 80000000
set_option linter.all false
open Go Go.Proofs Go.RowKit
namespace Qv
theorem Yx (a:bR):(BG a).length<=a.over.length+4:=by
 unfold BG;simp only[aA,aj];repeat' split
 all_goals simp only[aW,bt];omega
theorem UM (l:List bR)(i:bQ):jC (sZ l) i=(l.find? λa=>decide (a.id=i)).map λa=>.agg (cA a):=CB l i
theorem acJ {p:gr}(h:sV p):∀a,a∈iB p->a.over.length<=400:=λa ha=>by rw[sL h]at ha;obtain⟨b,hb,rfl⟩:=aJ.1 ha;rw[Cm];have h1:=Oo (jB p).1 b.over;have h2:=(qD p).2 b hb;omega
theorem UN {p:gr}(h:sV p)(d:Dg)(i:Nat):(El p d (iB p) i).over.length<=400:=by
 unfold El;have :((iB p).getD (kj p i) dK).over.length<=400:=by
  rw[dr];cases hx:(iB p)[kj p i]?with
  |none=>exact nR _
  |some a=>exact acJ h a (bW hx)
 simp only;split;exact nR _;exact this
noncomputable def zV (t:TypeId):Value:=match C.P.info? t with
 |some i=>match i.zero with|some z=>z|none=>.bool false
 |none=>.bool false
theorem UO {x:jj}{p:fD}(h:sV p.pat)(ha:av C 93 [.agg (cP p.pat)] (λr=>r=.val (.eN [.sl (gI (iB p.pat)),.int .i64 0]))):av C 46 [.agg (GZ x),.agg (mT p)] (λr=>r=.val (.int .i64 (Lh x p))):=by
 obtain⟨E,hE⟩:∃E,Lh x p=E:=⟨_,rfl⟩;rw[hE];unfold Lh at hE;have mF:=h.SI.changes;refine qO qZ [9] Tryz.func46 rfl rfl rfl (cl ha.Yl ?_);refine bJ 93 (λi:Nat=>[(2,.ptr 2 0),(3,.ptr 3 0),(5,.p (.sl (gI (iB p.pat)))),(23,.p (.int .i64 ((p.pat.changes.map cC).length:Int))),(24,.p (.int .i64 (i:Int)))]) (λ_=>[(2,aH (GZ x)),(3,aH (mT p))]) (λi=>i<=p.pat.changes.length/\bf (((List.range p.pat.changes.length).drop i).flatMap λi=>(oQ (El p.pat p.id (iB p.pat) i)).map (stepG (gJ x) p.id))=E) (λi=>p.pat.changes.length-i) 0 ⟨zL,hE⟩ kK wS oS ?_;rintro i ⟨hi,hE⟩;refine cq (λhlt=>?_) (λhge=>?_);rotate_left;rw[cZ (by rw[fe];exact jd hge)]at hE;obtain rfl:(0:Int)=E:=hE;exact rfl;rw[bY (by rw[fe];exact hlt),qz,mQ]at hE;refine cl (Sf h i hlt).Yl ?_;obtain⟨RN,-⟩:=aI.1 (MG h hlt);have hO:=UN h p.id i;obtain⟨H,hH⟩:∃H,El p.pat p.id (iB p.pat) i=H:=⟨_,rfl⟩;rw[hH]at hE hO;unfold El at hH;simp only[show(iB p.pat).getD (kj p.pat i) dK=(iB p.pat)[kj p.pat i]from by rw[dr,ay RN];rfl,show p.pat.changes.getD i default=p.pat.changes[i]from by rw[dr,ay hlt];rfl]at hH;refine ix RN ?_;generalize(iB p.pat)[kj p.pat i]=a at hH;refine ix hlt ?_;have fW:=λK (hK:K (cC p.pat.changes[i]))=>ix (f:=cC) (l:=p.pat.changes) (m:=139) (K:=K) hlt hK;generalize p.pat.changes[i]=c at hH fW;refine share (T:=?T1) (λH1=>?m1) ?r1;case m1=>refine aC (λh5=>?_) (λh5=>?_);have h5:c.kind=5:=h5;have hH2:=(ag h5).symm.trans hH;refine fW _ (bZ 15 kK ⟨_,(MY p.id c.cQ).Yl,_,(MY p.id c.dc).Yl,_,rfl,?_⟩);refine de 93 [(2,.ptr 2 0),(3,.ptr 3 0),(5,.p (.sl (gI (iB p.pat)))),(8,.ptr 8 0),(23,.p (.int .i64 ((p.pat.changes.map cC).length:Int))),(24,.p (.int .i64 (i:Int)))] [(2,aH (GZ x)),(3,aH (mT p)),(8,aH (cA H))] kK wS ⟨aG kK,aG kK,by rw[<-hH2];exact AZ (xs:=(aH (cA ⟨a.id,6,a.file,0,aP,[],0,[],[],aS c.cQ p.id,aS c.dc p.id,[]⟩)).take 171) kK kK (bw.NX []),trivial⟩ ?_;exact H1.out;have h5:¬c.kind=5:=h5;have hH2:a=H:=(af h5).symm.trans hH;refine de 93 [(2,.ptr 2 0),(3,.ptr 3 0),(5,.p (.sl (gI (iB p.pat)))),(8,.ptr 8 0),(23,.p (.int .i64 ((p.pat.changes.map cC).length:Int))),(24,.p (.int .i64 (i:Int)))] [(2,aH (GZ x)),(3,aH (mT p)),(8,aH (cA H))] kK wS (by rw[<-hH2];exact oS) ?_;exact H1.out
 case r1=>
  refine cl (UL H oO).Yl ?_;clear hH fW RN;have acK:=Yw H;have hok:=acI H;have hrl:=Yx H;generalize oQ H=X at hE acK;generalize BG H=L at acK hok hrl;rw[<-acK,fP]at hE;obtain⟨R,hR⟩:∃R,((List.range p.pat.changes.length).drop (i+1)).flatMap (λi=>(oQ (El p.pat p.id (iB p.pat) i)).map (stepG (gJ x) p.id))=R:=⟨_,rfl⟩;rw[hR]at hE;refine bJ 93 (λk:Nat=>[(2,.ptr 2 0),(3,.ptr 3 0),(5,.p (.sl (gI (iB p.pat)))),(23,.p (.int .i64 ((p.pat.changes.map cC).length:Int))),(24,.p (.int .i64 (i:Int))),(64,.p (.sl (L.map tX))),(65,.p (.int .i64 ((L.map tX).length:Int))),(66,.p (.int .i64 (k:Int)))]) (λ_=>[(2,aH (GZ x)),(3,aH (mT p))]) (λk=>k<=L.length/\bf (((L.drop k).map λr=>stepG (gJ x) p.id (r.id,r.sem))++R)=E) (λk=>L.length-k) 0 ⟨zL,hE⟩ kK wS oS ?_;rintro k ⟨hk,hF⟩;refine cq (λeM=>?_) (λsn=>?_);rotate_left;rw[cZ (jd sn),fM,dM,<-hR]at hF;exact nx (i+1) (aT (i+1) ⟨hlt,hF⟩ mM kK wS oS);have hr:=hok L[k] (aQ _);rw[bY eM,bB,cr]at hF;refine ix eM ?_;generalize L[k]=r at hr hF;refine⟨sC,ct,rfl,rfl,rfl,zN (a:=r.id.p) (b:=p.id) ?_⟩;by_cases hp:r.id.p=p.id;rw[ah hp];rw[dz (show stepG (gJ x) p.id (r.id,r.sem)=0 from ag hp)]at hF;exact nx (k+1) (aT (k+1) ⟨eM,hF⟩ mM kK wS oS);rw[ai hp];have hf:=UM x.atoms r.id;have hs:stepG (gJ x) p.id (r.id,r.sem)=match gJ x r.id with|none=>7|some b=>if r.sem b=true then 0 else 8:=af hp;rw[hs]at hF;cases hx:x.atoms.find? λa=>decide (a.id=r.id)with
  |none=>rw[hx]at hf;rw[show gJ x r.id=none from hx,ee (show(7:Int)≠0 by decide)]at hF;refine⟨Po,lz,wI.fits r.id,(by rw[show rY _ _=_ from nQ wI (sZ x.atoms)];exact je wI _),none,(by rw[show rY _ _=_ from nQ wI (sZ x.atoms)];exact(rV wI _ r.id).trans (by rw[hf];rfl)),zV 109,kK,?_⟩;exact bF (aY (λe=>dJ.val (.int .i64 e)) hF)
  |some b=>
   rw[hx]at hf;rw[show gJ x r.id=some b from hx]at hF;replace hF:bf ((if r.sem b=true then(0:Int)else 8)::_)=E:=hF;refine⟨Po,lz,wI.fits r.id,(by rw[show rY _ _=_ from nQ wI (sZ x.atoms)];exact je wI _),some (.p (.agg (cA b))),(by rw[show rY _ _=_ from nQ wI (sZ x.atoms)];exact(rV wI _ r.id).trans (by rw[hf];rfl)),?_⟩;refine bF (cl (hr b).Yl ?_);cases hb:r.sem b with
   |false=>rw[hb,af dD,ee (show(8:Int)≠0 by decide)]at hF;exact bF (aY (λe=>dJ.val (.int .i64 e)) hF)
   |true=>rw[hb,ag rfl,dz rfl]at hF;exact bF (nx (k+1) (aT (k+1) ⟨eM,hF⟩ mM kK wS oS))
def vO (s:List fD)(M:List (Dg×AV)):Prop:=∀d v,jC M d=some v->∃x,x∈s/\x.id=d/\v=.sl (gI (iB x.pat))
def ym (s:List fD):List (Nat×List FV):=[(990001,[.p (.sl (kG s)),.gw 990000])]
def atV (o:Option bR):AV:=match o with|some a=>.eN [.agg (cA a),.bool true]|none=>.eN [.agg (cA dK),.bool false]
theorem US {s:List fD}(h:HA s){M:List (Dg×AV)}(hM:vO s M){i:bQ}(hi:i.p∈iz s):oA C 152 (ym s) 990000 (kE wD M) [.ptr 990001 0,.p (.agg (cI i))] (λr l'=>r=atV (mA s i)/\∃M',l'=kE wD M'/\vO s M'):=by
 refine jT qZ [] Tryz.func152 rfl rfl rfl rfl rfl kK ?_;cases hl:jC M i.p with
 |some v=>
  obtain⟨x,hx,hxi,rfl⟩:=hM i.p v hl;have qS:iT s i=if i.n<0\/((iB x.pat).length:Int)<=i.n then(dK,false)else((iB x.pat).getD i.n.toNat dK,true):=by unfold iT;rw[<-hxi,sw h.ok.Hy hx];rfl
  have hno:(i.n<0\/((iB x.pat).length:Int)<=i.n)->mA s i=none:=λg=>by unfold mA;rw[qS,ag g,af dD]
  have hyes:∀hk:i.n.toNat<(iB x.pat).length,0<=i.n->mA s i=some (iB x.pat)[i.n.toNat]:=λhk g=>by unfold mA;rw[qS.trans (af (λq:i.n<0\/((iB x.pat).length:Int)<=i.n=>q.elim (λq=>absurd g oO) (λq=>absurd hk oO)))];show some ((iB x.pat).getD i.n.toNat dK)=_;rw[dr,ay hk];rfl
  refine bZ 11 kK ?_;refine⟨.eN [.p (.sl (gI (iB x.pat))),.p (.bool true)],⟨sC,ct,wD.fits i.p,by simp only[bL];exact je wD _,some (.p (.sl (gI (iB x.pat)))),by simp only[bL];exact(rV wD M i.p).trans (by rw[hl];rfl),rfl⟩,?_⟩;refine bF ⟨none,aF (λh0=>?_) (λh0=>?_)⟩;have h0:i.n<0:=h0;refine⟨⟨⟨kK,trivial⟩,by simp only[bL];exact cz wD _ _ _⟩,?_,M,by simp only[bL],hM⟩;rw[hno (.inl h0)];exact rfl;have h0:¬i.n<0:=h0;refine aF (λh2=>?_) (λh2=>?_);have h2:((iB x.pat).length:Int)<=i.n:=by have h2:i.n≥(((iB x.pat).map cA).length:Int):=h2;rw[aj]at h2;omega
  refine⟨⟨⟨kK,trivial⟩,by simp only[bL];exact cz wD _ _ _⟩,?_,M,by simp only[bL],hM⟩;rw[hno (.inr h2)];exact rfl;have h2:i.n<((iB x.pat).length:Int):=by have h2:¬i.n≥(((iB x.pat).map cA).length:Int):=h2;rw[aj]at h2;omega
  have hk:i.n.toNat<(iB x.pat).length:=oO
  refine⟨oO,_,(show((iB x.pat).map cA)[i.n.toNat]?=some (cA (iB x.pat)[i.n.toNat])by rw[aM,ay hk];rfl),rfl,?_⟩;refine⟨⟨⟨kK,trivial⟩,by simp only[bL];exact cz wD _ _ _⟩,?_,M,by simp only[bL],hM⟩;rw[hyes hk oO];exact rfl
 |none=>
  refine bZ 11 kK ?_;refine⟨.eN [.full [],.p (.bool false)],⟨sC,ct,wD.fits i.p,by simp only[bL];exact je wD _,none,by simp only[bL];exact(rV wD M i.p).trans (by rw[hl];rfl),.slice none 0 0,kK,rfl⟩,?_⟩;refine bF ?_;obtain⟨x,hx,hxi⟩:=aJ.1 hi;have hfi:s.find? (λy=>decide (y.id=i.p))=some x:=uf hx (ah hxi) λy hy hp=>by
   have hp:y.id=i.p:=by simpa using hp
   exact OO h.ok.Hy hy hx (by rw[hp,hxi])
  have hgt:wC s i.p=(x.pat,true):=by rw[<-hxi];exact sw h.ok.Hy hx
  have qS:iT s i=if i.n<0\/((iB x.pat).length:Int)<=i.n then(dK,false)else((iB x.pat).getD i.n.toNat dK,true):=by unfold iT;rw[hgt];rfl
  have hno:(i.n<0\/((iB x.pat).length:Int)<=i.n)->mA s i=none:=λg=>by unfold mA;rw[qS,ag g,af dD]
  have hyes:∀hk:i.n.toNat<(iB x.pat).length,0<=i.n->mA s i=some (iB x.pat)[i.n.toNat]:=λhk g=>by unfold mA;rw[qS.trans (af (λq:i.n<0\/((iB x.pat).length:Int)<=i.n=>q.elim (λq=>absurd g oO) (λq=>absurd hk oO)))];show some ((iB x.pat).getD i.n.toNat dK)=_;rw[dr,ay hk];rfl
  have yT:vO s (uN M i.p (.sl (gI (iB x.pat)))):=λd v hv=>by rw[rO]at hv;by_cases e:d=i.p;rw[ag e]at hv;exact⟨x,hx,by rw[e,hxi],(aq hv).symm⟩;rw[af e]at hv;exact hM d v hv
  refine⟨.plan ⟨[0,1,2,3,4,5,6,7,8,9],[10,11],[],[3,990001]⟩ (.one 0 (.one 1 (.one 2 (.one 3 (.one 4 (.one 5 (.one 6 (.one 7 (.one 8 (.one 9 (.alt 10 (.alt 11 (.one 12 (.fin)) (.stop)) (.stop)))))))))))) none,kK,?_⟩;refine⟨_,rfl,rfl,_,rfl,rfl,_,rfl,rfl,_,rfl,rfl,_,rfl,rfl,_,rfl,rfl,?_⟩;refine⟨.p (.eN [.agg (cP x.pat),.bool true]),⟨_,(RQ s x i.p hfi (by have :=h.ok.few;omega)).eG,λr hr=>by subst hr;rfl⟩,rfl,?_⟩;refine⟨_,rfl,rfl,_,rfl,rfl,_,rfl,rfl,rfl,rfl,_,rfl,cl ((UP h hx).atoms).eG (bZ 7 kK ⟨sC,ct,wD.fits i.p,(by simp only[bL];exact je wD _),kE wD (uN M i.p (.sl (gI (iB x.pat)))),(by simp only[bL];exact ye wD _ i.p _),?_⟩)⟩;refine⟨none,aF (λh0=>?_) (λh0=>?_)⟩;have h0:i.n<0:=h0;refine⟨⟨⟨kK,trivial⟩,cz wD _ _ _⟩,?_,_,by simp only[bL],yT⟩;rw[hno (.inl h0)];exact rfl;have h0:¬i.n<0:=h0;refine aF (λh2=>?_) (λh2=>?_);have h2:((iB x.pat).length:Int)<=i.n:=by have h2:i.n≥(((iB x.pat).map cA).length:Int):=h2;rw[aj]at h2;omega
  refine⟨⟨⟨kK,trivial⟩,cz wD _ _ _⟩,?_,_,by simp only[bL],yT⟩;rw[hno (.inr h2)];exact rfl;have h2:i.n<((iB x.pat).length:Int):=by have h2:¬i.n≥(((iB x.pat).map cA).length:Int):=h2;rw[aj]at h2;omega
  have hk:i.n.toNat<(iB x.pat).length:=oO
  refine⟨oO,_,(show((iB x.pat).map cA)[i.n.toNat]?=some (cA (iB x.pat)[i.n.toNat])by rw[aM,ay hk];rfl),rfl,?_⟩;refine⟨⟨⟨kK,trivial⟩,cz wD _ _ _⟩,?_,_,by simp only[bL],yT⟩;rw[hyes hk oO];exact rfl
theorem Su (l:List Dg)(S:List Dg):(l.any λd=>!decide (d∈S))=!mV S l:=by unfold mV;rw[List.not_all_eq_any_not]
theorem GJ {x:jj}(hx:Uz x){p:fD}(hi:av C 41 [.agg (cP p.pat)] (λr=>r=.val (idR (jB p.pat))))(ht:(jB p.pat).2=0->sV p.pat)(hT:(jB p.pat).2=0->(jB p.pat).1=p.id->p.id∉lN x->mV (lN x) (bC p.pat)=true->OkT p):av C 13 [.agg (ij x),.agg (mT p)] (λr=>r=.val (Uk (qN x p))):=by
 obtain⟨R,hR⟩:∃R,qN x p=R:=⟨_,rfl⟩;rw[hR];unfold qN at hR;refine qO qZ [13] Tryz.func13 rfl rfl rfl (cl hi.Yl (cm (λh=>?_) (λh=>?_)));have h:(jB p.pat).2≠0:=h;rw[ag h]at hR;rw[<-hR];exact rfl;have h:(jB p.pat).2=0:=h;rw[af (λg=>g h)]at hR;have hq:=ht h;have hT:=hT h;have hn:av C 45 [.agg (cP p.pat)] (λr=>r=.val (.sl (pe (bC p.pat)))):=by have :=Am hq;rwa[JI hq]at this
 have hnl:(bC p.pat).length<=2^47:=by have :=xO p.pat;omega
 refine cl (UA hx).Yl ⟨[8],dA (cells:=aH (GZ x)) (ys:=GZ x) rfl (bI _) rfl ⟨sC,ct,rfl,rfl,rfl,mw (a:=(jB p.pat).1) (b:=p.id) (share (T:=?T1) (λH1=>?m1) ?r1)⟩⟩;case m1=>
  by_cases hid:(jB p.pat).1=p.id;rotate_left;rw[ai hid];have hR:=(ag hid).symm.trans hR;obtain⟨e,he⟩:∃e:Int,e=13:=⟨_,rfl⟩;have hF:(if e≠0 then(iU,e)else if 400<=x.pats.length then(iU,4)else(lE x p,0))=R/\(e=0->OkT p):=⟨by rw[he];exact hR,λc=>absurd c (by rw[he];decide)⟩;refine de 57 [(2,.ptr 2 0),(3,.ptr 3 0),(4,.ptr 4 0),(7,.p (.int .i64 e))] [(2,aH (ij x)),(3,aH (mT p)),(4,[.full [],.full []])] kK (by rw[he];exact wS) oS ?_;clear he;revert e;exact H1.out;rw[ah hid];have hR:=(af (λg=>g hid)).symm.trans hR;refine cl (JU x (jB p.pat).1).Yl (bF ?_);rw[hid];by_cases hm:p.id∈lN x;rw[ah hm];have hR:=(ag hm).symm.trans hR;obtain⟨e,he⟩:∃e:Int,e=6:=⟨_,rfl⟩;have hF:(if e≠0 then(iU,e)else if 400<=x.pats.length then(iU,4)else(lE x p,0))=R/\(e=0->OkT p):=⟨by rw[he];exact hR,λc=>absurd c (by rw[he];decide)⟩;refine de 57 [(2,.ptr 2 0),(3,.ptr 3 0),(4,.ptr 4 0),(7,.p (.int .i64 e))] [(2,aH (ij x)),(3,aH (mT p)),(4,[.full [],.full []])] kK (by rw[he];exact wS) oS ?_;clear he;revert e;exact H1.out;rw[ai hm];have hR:=(af hm).symm.trans hR;refine cl hn.Yl (cl (RO (bC p.pat) 43 (.imp (GZ x)) (λd=>!decide (d∈lN x)) (λd _=>JU x d) hnl).Yl ?_);rw[Su];cases ha:mV (lN x) (bC p.pat)with
  |false=>have hR:=(ag ha).symm.trans hR;obtain⟨e,he⟩:∃e:Int,e=19:=⟨_,rfl⟩;have hF:(if e≠0 then(iU,e)else if 400<=x.pats.length then(iU,4)else(lE x p,0))=R/\(e=0->OkT p):=⟨by rw[he];exact hR,λc=>absurd c (by rw[he];decide)⟩;refine de 57 [(2,.ptr 2 0),(3,.ptr 3 0),(4,.ptr 4 0),(7,.p (.int .i64 e))] [(2,aH (ij x)),(3,aH (mT p)),(4,[.full [],.full []])] kK (by rw[he];exact wS) oS ?_;clear he;revert e;exact H1.out
  |true=>have hR:=(af (show¬mV (lN x) (bC p.pat)=false by rw[ha];decide)).symm.trans hR;have hT:=hT hid hm ha;refine cl (UO (x:=x) hq hT.atoms).Yl ?_;obtain⟨e,he⟩:∃e:Int,e=Lh x p:=⟨_,rfl⟩;have hF:(if e≠0 then(iU,e)else if 400<=x.pats.length then(iU,4)else(lE x p,0))=R/\(e=0->OkT p):=⟨by rw[he];exact hR,λ_=>hT⟩;refine de 57 [(2,.ptr 2 0),(3,.ptr 3 0),(4,.ptr 4 0),(7,.p (.int .i64 e))] [(2,aH (ij x)),(3,aH (mT p)),(4,[.full [],.full []])] kK (by rw[he];exact wS) oS ?_;clear he;revert e;exact H1.out
 case r1=>
  intro e hFT;obtain⟨hF,hT2⟩:=hFT;refine⟨none,aC (λhe=>?_) (λhe=>?_)⟩;rotate_left;have he:e≠0:=he;refine cm (λ_=>?_) (λg=>absurd g he);rw[<-(ag he).symm.trans hF];exact rfl;have he:e=0:=he;have hT3:=hT2 he;subst he;replace hF:=(af (λg=>g rfl)).symm.trans hF;refine aF (λhl=>?_) (λhl=>?_);have hl:400<=x.pats.length:=by have hl:((x.pats.map gi).length:Int)≥400:=hl;rw[aj]at hl;omega
  refine cm (λ_=>?_) (λg=>absurd g (show(4:Int)≠0 by decide));rw[<-(ag hl).symm.trans hF];exact rfl;have hl:¬400<=x.pats.length:=by have hl:¬((x.pats.map gi).length:Int)≥400:=hl;rw[aj]at hl;omega
  refine cm (λg=>absurd rfl g) (λ_=>?_);rw[<-(af hl).symm.trans hF];refine cl (MZ hT3 oO hx.la).Yl ?_;exact rfl
theorem UR {x:jj}(hx:Uz x){p:fD}(hi:av C 41 [.agg (cP p.pat)] (λr=>r=.val (idR (jB p.pat))))(ht:(jB p.pat).2=0->OkT p):av C 13 [.agg (ij x),.agg (mT p)] (λr=>r=.val (Uk (qN x p))):=GJ hx hi (λh=>(ht h).q) λh _ _ _=>ht h
end Qv
