/- Part 28 of the proof: its lemmas. No condition. -/
import Derived.Test.YtiboombocnfngaaGreatDoorV3
import Derived.Test.YtiboombocnfngaaGreatDoorV4
import Derived.Test.YtiboombocnfngaaGreatDoorV6
import Derived.Test.YtiboombocnfngaaGreatDoorV7
import Derived.Test.YtiboombocnfngaaGreatDoorV10
import Derived.Test.YtiboombocnfngaaGreatDoorV16
import Derived.Test.YtiboombocnfngaaGreatDoorV19
import Derived.Test.YtiboombocnfngaaGreatDoorV20
import Derived.Test.YtiboombocnfngaaGreatDoorV21
set_option maxRecDepth 10000
set_option maxHeartbeats 80000000
set_option linter.all false
open Go Go.Proofs Go.RowKit
namespace Qv
theorem Xz (a:cq):(Bb a).length<=a.over.length+4:=by
 unfold Bb;simp only[ay,ah];repeat' split
 all_goals simp only[aR,bn];omega
theorem TK (l:List cq)(i:bV):jd (sB l) i=(l.find? λa=>decide (a.id=i)).map λa=>.agg (cA a):=BV l i
theorem JC {p:gr}(h:xw p):∀a,a∈jE p->a.over.length<=400:=λa ha=>by rw[zF h]at ha;obtain⟨b,hb,rfl⟩:=aC.1 ha;rw[SQ];have h1:=UG (lV p).1 b.over;have h2:=(qq p).2 b hb;omega
theorem TL {p:gr}(h:xw p)(d:Dg)(i:Nat):(DR p d (jE p) i).over.length<=400:=by
 unfold DR;have :((jE p).getD (pF p i) iA).over.length<=400:=by
  rw[eV];cases hx:(jE p)[pF p i]?with
  |none=>exact sC _
  |some a=>exact JC h a (bU hx)
 simp only;split;exact sC _;exact this
noncomputable def zV (t:TypeId):Value:=match C.P.info? t with
 |some i=>match i.zero with|some z=>z|none=>.bool false
 |none=>.bool false
theorem TM {x:vO}{p:cL}(h:xw p.pat)(ha:aq C 93 [.agg (cP p.pat)] (λr=>r=.val (.eW [.sl (iu (jE p.pat)),.int .i64 0]))):aq C 46 [.agg (Gx x),.agg (fU p)] (λr=>r=.val (.int .i64 (QV x p))):=by
 obtain⟨E,hE⟩:∃E,QV x p=E:=⟨_,rfl⟩;rw[hE];unfold QV at hE;have lU:=h.UP.changes;refine qz qu [9] Tryz.func46 rfl rfl rfl ?_;refine cl ha.Xq ?_;refine bJ 93 (λi:Nat=>[(2,.ptr 2 0),(3,.ptr 3 0),(5,.p (.sl (iu (jE p.pat)))),(23,.p (.int .i64 ((p.pat.changes.map cC).length:Int))),(24,.p (.int .i64 (i:Int)))]) (λ_=>[(2,aG (Gx x)),(3,aG (fU p))]) (λi=>i<=p.pat.changes.length/\bz (((List.range p.pat.changes.length).drop i).flatMap λi=>(uf (DR p.pat p.id (jE p.pat) i)).map (stepG (zH x) p.id))=E) (λi=>p.pat.changes.length-i) 0 ⟨zL,hE⟩ kK wS oS ?_;rintro i ⟨hi,hE⟩;refine cg (λhlt=>?_) (λhge=>?_);rotate_left;rw[cV (by rw[mw];exact tA hge)]at hE;obtain rfl:(0:Int)=E:=hE;exact rfl;rw[bZ (by rw[mw];exact hlt),Dt,ow]at hE;refine cl (Rn h i hlt).Xq ?_;obtain⟨Oj,-⟩:=aJ.1 (LV h hlt);have hO:=TL h p.id i;obtain⟨H,hH⟩:∃H,DR p.pat p.id (jE p.pat) i=H:=⟨_,rfl⟩;rw[hH]at hE hO;unfold DR at hH;simp only[show(jE p.pat).getD (pF p.pat i) iA=(jE p.pat)[pF p.pat i]from by rw[eV,av Oj];rfl,show p.pat.changes.getD i default=p.pat.changes[i]from by rw[eV,av hlt];rfl]at hH;refine ix Oj ?_;generalize(jE p.pat)[pF p.pat i]=a at hH;refine ix hlt ?_;have jD:=λK (hK:K (cC p.pat.changes[i]))=>ix (f:=cC) (l:=p.pat.changes) (m:=139) (K:=K) hlt hK;generalize p.pat.changes[i]=c at hH jD;refine share (T:=?T1) (λH1=>?m1) ?r1;case m1=>refine aB (λh5=>?_) (λh5=>?_);have h5:c.kind=5:=h5;have hH2:=(ag h5).symm.trans hH;refine jD _ ?_;refine bW 15 kK ?_;refine⟨_,(Mb p.id c.cS).Xq,?_⟩;refine⟨_,(Mb p.id c.cZ).Xq,?_⟩;refine⟨_,rfl,?_⟩;refine dc 93 [(2,.ptr 2 0),(3,.ptr 3 0),(5,.p (.sl (iu (jE p.pat)))),(8,.ptr 8 0),(23,.p (.int .i64 ((p.pat.changes.map cC).length:Int))),(24,.p (.int .i64 (i:Int)))] [(2,aG (Gx x)),(3,aG (fU p)),(8,aG (cA H))] kK wS ⟨aH kK,aH kK,by rw[<-hH2];exact Ar (xs:=(aG (cA ⟨a.id,6,a.file,0,aS,[],0,[],[],bl c.cS p.id,bl c.cZ p.id,[]⟩)).take 171) kK kK (bh.yY []),trivial⟩ ?_;exact H1.out;have h5:¬c.kind=5:=h5;have hH2:a=H:=(af h5).symm.trans hH;refine dc 93 [(2,.ptr 2 0),(3,.ptr 3 0),(5,.p (.sl (iu (jE p.pat)))),(8,.ptr 8 0),(23,.p (.int .i64 ((p.pat.changes.map cC).length:Int))),(24,.p (.int .i64 (i:Int)))] [(2,aG (Gx x)),(3,aG (fU p)),(8,aG (cA H))] kK wS (by rw[<-hH2];exact oS) ?_;exact H1.out
 case r1=>
  refine cl (TJ H oO).Xq ?_;clear hH jD Oj;have abI:=Xy H;have hok:=abH H;have hrl:=Xz H;generalize uf H=X at hE abI;generalize Bb H=L at abI hok hrl;rw[<-abI,fL]at hE;obtain⟨R,hR⟩:∃R,((List.range p.pat.changes.length).drop (i+1)).flatMap (λi=>(uf (DR p.pat p.id (jE p.pat) i)).map (stepG (zH x) p.id))=R:=⟨_,rfl⟩;rw[hR]at hE;refine bJ 93 (λk:Nat=>[(2,.ptr 2 0),(3,.ptr 3 0),(5,.p (.sl (iu (jE p.pat)))),(23,.p (.int .i64 ((p.pat.changes.map cC).length:Int))),(24,.p (.int .i64 (i:Int))),(64,.p (.sl (L.map tw))),(65,.p (.int .i64 ((L.map tw).length:Int))),(66,.p (.int .i64 (k:Int)))]) (λ_=>[(2,aG (Gx x)),(3,aG (fU p))]) (λk=>k<=L.length/\bz (((L.drop k).map λr=>stepG (zH x) p.id (r.id,r.sem))++R)=E) (λk=>L.length-k) 0 ⟨zL,hE⟩ kK wS oS ?_;rintro k ⟨hk,hF⟩;refine cg (λef=>?_) (λsq=>?_);rotate_left;rw[cV (tA sq),fW,gx,<-hR]at hF;exact nx (i+1) (aQ (i+1) ⟨hlt,hF⟩ (by show p.pat.changes.length-(i+1)<p.pat.changes.length-i;omega) kK wS oS);have hr:=hok L[k] (aO _);rw[bZ ef,bR,dm]at hF;refine ix ef ?_;generalize L[k]=r at hr hF;refine⟨qC,bY,rfl,rfl,rfl,?_⟩;refine By (a:=r.id.p) (b:=p.id) ?_;by_cases hp:r.id.p=p.id;rw[an hp];rw[cn (show stepG (zH x) p.id (r.id,r.sem)=0 from ag hp)]at hF;exact nx (k+1) (aQ (k+1) ⟨ef,hF⟩ (by show L.length-(k+1)<L.length-k;omega) kK wS oS);rw[ak hp];have hf:=TK x.atoms r.id;have hs:stepG (zH x) p.id (r.id,r.sem)=match zH x r.id with|none=>7|some b=>if r.sem b=true then 0 else 8:=af hp;rw[hs]at hF;cases hx:x.atoms.find? λa=>decide (a.id=r.id)with
  |none=>rw[hx]at hf;rw[show zH x r.id=none from hx,cE (show(7:Int)≠0 by decide)]at hF;refine⟨Oh,kB,wI.fits r.id,(by rw[show pT _ _=_ from nM wI (sB x.atoms)];exact iP wI _),none,(by rw[show pT _ _=_ from nM wI (sB x.atoms)];exact(rM wI _ r.id).trans (by rw[hf];rfl)),zV 109,kK,?_⟩;refine bH ?_;exact bg (λe=>dx.val (.int .i64 e)) hF
  |some b=>
   rw[hx]at hf;rw[show zH x r.id=some b from hx]at hF;replace hF:bz ((if r.sem b=true then(0:Int)else 8)::_)=E:=hF;refine⟨Oh,kB,wI.fits r.id,(by rw[show pT _ _=_ from nM wI (sB x.atoms)];exact iP wI _),some (.p (.agg (cA b))),(by rw[show pT _ _=_ from nM wI (sB x.atoms)];exact(rM wI _ r.id).trans (by rw[hf];rfl)),?_⟩;refine bH ?_;refine cl (hr b).Xq ?_;cases hb:r.sem b with
   |false=>rw[hb,af dD,cE (show(8:Int)≠0 by decide)]at hF;refine bH ?_;exact bg (λe=>dx.val (.int .i64 e)) hF
   |true=>rw[hb,ag rfl,cn rfl]at hF;refine bH ?_;exact nx (k+1) (aQ (k+1) ⟨ef,hF⟩ (by show L.length-(k+1)<L.length-k;omega) kK wS oS)
def su (s:List cL)(M:List (Dg×AV)):Prop:=∀d v,jd M d=some v->∃x,x∈s/\x.id=d/\v=.sl (iu (jE x.pat))
def vR (s:List cL):List (Nat×List FV):=[(990001,[.p (.sl (eS s)),.fG 990000])]
def atV (o:Option cq):AV:=match o with|some a=>.eW [.agg (cA a),.bool true]|none=>.eW [.agg (cA iA),.bool false]
theorem TO {s:List cL}(h:vk s){M:List (Dg×AV)}(hM:su s M){i:bV}(hi:i.p∈dN s):oz C 152 (vR s) 990000 (kE wD M) [.ptr 990001 0,.p (.agg (cI i))] (λr l'=>r=atV (kQ s i)/\∃M',l'=kE wD M'/\su s M'):=by
 refine jA qu [] Tryz.func152 rfl rfl rfl rfl rfl kK ?_;cases hl:jd M i.p with
 |some v=>
  obtain⟨x,hx,hxi,rfl⟩:=hM i.p v hl;have rQ:gm s i=if i.n<0\/((jE x.pat).length:Int)<=i.n then(iA,false)else((jE x.pat).getD i.n.toNat iA,true):=by unfold gm;rw[<-hxi,oT h.ok.uY hx];rfl
  have hno:(i.n<0\/((jE x.pat).length:Int)<=i.n)->kQ s i=none:=λg=>by unfold kQ;rw[rQ,ag g,af dD]
  have hyes:∀hk:i.n.toNat<(jE x.pat).length,0<=i.n->kQ s i=some (jE x.pat)[i.n.toNat]:=λhk g=>by unfold kQ;rw[rQ.trans (af (λq:i.n<0\/((jE x.pat).length:Int)<=i.n=>q.elim (λq=>absurd g oO) (λq=>absurd hk oO)))];show some ((jE x.pat).getD i.n.toNat iA)=_;rw[eV,av hk];rfl
  refine bW 11 kK ?_;refine⟨.eW [.p (.sl (iu (jE x.pat))),.p (.bool true)],⟨qC,bY,wD.fits i.p,by simp only[bG];exact iP wD _,some (.p (.sl (iu (jE x.pat)))),by simp only[bG];exact(rM wD M i.p).trans (by rw[hl];rfl),rfl⟩,?_⟩;refine bH ?_;refine⟨none,?_⟩;refine aF (λh0=>?_) (λh0=>?_);have h0:i.n<0:=h0;refine⟨⟨⟨kK,trivial⟩,by simp only[bG];exact cr wD _ _ _⟩,?_,M,by simp only[bG],hM⟩;rw[hno (.inl h0)];exact rfl;have h0:¬i.n<0:=h0;refine aF (λh2=>?_) (λh2=>?_);have h2:((jE x.pat).length:Int)<=i.n:=by have h2:i.n≥(((jE x.pat).map cA).length:Int):=h2;rw[ah]at h2;omega
  refine⟨⟨⟨kK,trivial⟩,by simp only[bG];exact cr wD _ _ _⟩,?_,M,by simp only[bG],hM⟩;rw[hno (.inr h2)];exact rfl;have h2:i.n<((jE x.pat).length:Int):=by have h2:¬i.n≥(((jE x.pat).map cA).length:Int):=h2;rw[ah]at h2;omega
  have hk:i.n.toNat<(jE x.pat).length:=oO
  refine⟨oO,_,(show((jE x.pat).map cA)[i.n.toNat]?=some (cA (jE x.pat)[i.n.toNat])by rw[aN,av hk];rfl),rfl,?_⟩;refine⟨⟨⟨kK,trivial⟩,by simp only[bG];exact cr wD _ _ _⟩,?_,M,by simp only[bG],hM⟩;rw[hyes hk oO];exact rfl
 |none=>
  refine bW 11 kK ?_;refine⟨.eW [.full [],.p (.bool false)],⟨qC,bY,wD.fits i.p,by simp only[bG];exact iP wD _,none,by simp only[bG];exact(rM wD M i.p).trans (by rw[hl];rfl),.slice none 0 0,kK,rfl⟩,?_⟩;refine bH ?_;obtain⟨x,hx,hxi⟩:=aC.1 hi;have hfi:s.find? (λy=>decide (y.id=i.p))=some x:=Ff hx (an hxi) λy hy hp=>by
   have hp:y.id=i.p:=by simpa using hp
   exact Jn h.ok.uY hy hx (by rw[hp,hxi])
  have hgt:nk s i.p=(x.pat,true):=by rw[<-hxi];exact oT h.ok.uY hx
  have rQ:gm s i=if i.n<0\/((jE x.pat).length:Int)<=i.n then(iA,false)else((jE x.pat).getD i.n.toNat iA,true):=by unfold gm;rw[hgt];rfl
  have hno:(i.n<0\/((jE x.pat).length:Int)<=i.n)->kQ s i=none:=λg=>by unfold kQ;rw[rQ,ag g,af dD]
  have hyes:∀hk:i.n.toNat<(jE x.pat).length,0<=i.n->kQ s i=some (jE x.pat)[i.n.toNat]:=λhk g=>by unfold kQ;rw[rQ.trans (af (λq:i.n<0\/((jE x.pat).length:Int)<=i.n=>q.elim (λq=>absurd g oO) (λq=>absurd hk oO)))];show some ((jE x.pat).getD i.n.toNat iA)=_;rw[eV,av hk];rfl
  have xJ:su s (ur M i.p (.sl (iu (jE x.pat)))):=λd v hv=>by rw[rD]at hv;by_cases e:d=i.p;rw[ag e]at hv;exact⟨x,hx,by rw[e,hxi],(au hv).symm⟩;rw[af e]at hv;exact hM d v hv
  refine⟨.plan ⟨[0,1,2,3,4,5,6,7,8,9],[10,11],[],[3,990001]⟩ (.one 0 (.one 1 (.one 2 (.one 3 (.one 4 (.one 5 (.one 6 (.one 7 (.one 8 (.one 9 (.alt 10 (.alt 11 (.one 12 (.fin)) (.stop)) (.stop)))))))))))) none,kK,?_⟩;refine⟨_,rfl,rfl,?_⟩;refine⟨_,rfl,rfl,?_⟩;refine⟨_,rfl,rfl,?_⟩;refine⟨_,rfl,rfl,?_⟩;refine⟨_,rfl,rfl,?_⟩;refine⟨_,rfl,rfl,?_⟩;refine⟨.p (.eW [.agg (cP x.pat),.bool true]),⟨_,(QJ s x i.p hfi (by have :=h.ok.few;omega)).dz,λr hr=>by subst hr;rfl⟩,rfl,?_⟩;refine⟨_,rfl,rfl,?_⟩;refine⟨_,rfl,rfl,?_⟩;refine⟨_,rfl,rfl,?_⟩;refine⟨rfl,?_⟩;refine⟨rfl,?_⟩;refine⟨_,rfl,?_⟩;refine cl ((BX h hx).atoms).dz ?_;refine bW 7 kK ?_;refine⟨qC,bY,wD.fits i.p,(by simp only[bG];exact iP wD _),kE wD (ur M i.p (.sl (iu (jE x.pat)))),(by simp only[bG];exact xI wD _ i.p _),?_⟩;refine⟨none,?_⟩;refine aF (λh0=>?_) (λh0=>?_);have h0:i.n<0:=h0;refine⟨⟨⟨kK,trivial⟩,cr wD _ _ _⟩,?_,_,by simp only[bG],xJ⟩;rw[hno (.inl h0)];exact rfl;have h0:¬i.n<0:=h0;refine aF (λh2=>?_) (λh2=>?_);have h2:((jE x.pat).length:Int)<=i.n:=by have h2:i.n≥(((jE x.pat).map cA).length:Int):=h2;rw[ah]at h2;omega
  refine⟨⟨⟨kK,trivial⟩,cr wD _ _ _⟩,?_,_,by simp only[bG],xJ⟩;rw[hno (.inr h2)];exact rfl;have h2:i.n<((jE x.pat).length:Int):=by have h2:¬i.n≥(((jE x.pat).map cA).length:Int):=h2;rw[ah]at h2;omega
  have hk:i.n.toNat<(jE x.pat).length:=oO
  refine⟨oO,_,(show((jE x.pat).map cA)[i.n.toNat]?=some (cA (jE x.pat)[i.n.toNat])by rw[aN,av hk];rfl),rfl,?_⟩;refine⟨⟨⟨kK,trivial⟩,cr wD _ _ _⟩,?_,_,by simp only[bG],xJ⟩;rw[hyes hk oO];exact rfl
theorem Rw (l:List Dg)(S:List Dg):(l.any λd=>!decide (d∈S))=!kH S l:=by unfold kH;rw[List.not_all_eq_any_not]
theorem JH {x:vO}(hx:agT x){p:cL}(hi:aq C 41 [.agg (cP p.pat)] (λr=>r=.val (idR (lV p.pat))))(ht:(lV p.pat).2=0->OkT p):aq C 13 [.agg (ov x),.agg (fU p)] (λr=>r=.val (agJ (EY x p))):=by
 obtain⟨R,hR⟩:∃R,EY x p=R:=⟨_,rfl⟩;rw[hR];unfold EY at hR;refine qz qu [13] Tryz.func13 rfl rfl rfl ?_;refine cl hi.Xq ?_;refine cu (λh=>?_) (λh=>?_);have h:(lV p.pat).2≠0:=h;rw[ag h]at hR;rw[<-hR];exact rfl;have h:(lV p.pat).2=0:=h;rw[af (λg=>g h)]at hR;obtain⟨hq,rQ⟩:=ht h;have hn:aq C 45 [.agg (cP p.pat)] (λr=>r=.val (.sl (jW (bI p.pat)))):=by have :=uS hq;rwa[DO hq]at this
 have hnl:(bI p.pat).length<=2^47:=by have :=qX p.pat;omega
 refine cl (TD hx).Xq ?_;refine⟨[8],dy (cells:=aG (Gx x)) (ys:=Gx x) rfl (bC _) rfl ?_⟩;refine⟨qC,bY,rfl,rfl,rfl,?_⟩;refine nE (a:=(lV p.pat).1) (b:=p.id) ?_;refine share (T:=?T1) (λH1=>?m1) ?r1;case m1=>
  by_cases hid:(lV p.pat).1=p.id;rotate_left;rw[ak hid];have hR:=(ag hid).symm.trans hR;obtain⟨e,he⟩:∃e:Int,e=13:=⟨_,rfl⟩;have hF:(if e≠0 then(jV,e)else if 400<=x.pats.length then(jV,4)else(jy x p,0))=R:=by rw[he];exact hR
  refine dc 57 [(2,.ptr 2 0),(3,.ptr 3 0),(4,.ptr 4 0),(7,.p (.int .i64 e))] [(2,aG (ov x)),(3,aG (fU p)),(4,[.full [],.full []])] kK (by rw[he];exact wS) oS ?_;clear he;revert e;exact H1.out;rw[an hid];have hR:=(af (λg=>g hid)).symm.trans hR;refine cl (Jw x (lV p.pat).1).Xq ?_;refine bH ?_;rw[hid];by_cases hm:p.id∈DS x;rw[an hm];have hR:=(ag hm).symm.trans hR;obtain⟨e,he⟩:∃e:Int,e=6:=⟨_,rfl⟩;have hF:(if e≠0 then(jV,e)else if 400<=x.pats.length then(jV,4)else(jy x p,0))=R:=by rw[he];exact hR
  refine dc 57 [(2,.ptr 2 0),(3,.ptr 3 0),(4,.ptr 4 0),(7,.p (.int .i64 e))] [(2,aG (ov x)),(3,aG (fU p)),(4,[.full [],.full []])] kK (by rw[he];exact wS) oS ?_;clear he;revert e;exact H1.out;rw[ak hm];have hR:=(af hm).symm.trans hR;refine cl hn.Xq ?_;refine cl (Jm (bI p.pat) 43 (.imp (Gx x)) (λd=>!decide (d∈DS x)) (λd _=>Jw x d) hnl).Xq ?_;rw[Rw];cases ha:kH (DS x) (bI p.pat)with
  |false=>
   have hR:=(ag ha).symm.trans hR;obtain⟨e,he⟩:∃e:Int,e=19:=⟨_,rfl⟩;have hF:(if e≠0 then(jV,e)else if 400<=x.pats.length then(jV,4)else(jy x p,0))=R:=by rw[he];exact hR
   refine dc 57 [(2,.ptr 2 0),(3,.ptr 3 0),(4,.ptr 4 0),(7,.p (.int .i64 e))] [(2,aG (ov x)),(3,aG (fU p)),(4,[.full [],.full []])] kK (by rw[he];exact wS) oS ?_;clear he;revert e;exact H1.out
  |true=>
   have hR:=(af (show¬kH (DS x) (bI p.pat)=false by rw[ha];decide)).symm.trans hR;refine cl (TM (x:=x) hq rQ).Xq ?_;obtain⟨e,he⟩:∃e:Int,e=QV x p:=⟨_,rfl⟩;have hF:(if e≠0 then(jV,e)else if 400<=x.pats.length then(jV,4)else(jy x p,0))=R:=by rw[he];exact hR
   refine dc 57 [(2,.ptr 2 0),(3,.ptr 3 0),(4,.ptr 4 0),(7,.p (.int .i64 e))] [(2,aG (ov x)),(3,aG (fU p)),(4,[.full [],.full []])] kK (by rw[he];exact wS) oS ?_;clear he;revert e;exact H1.out
 case r1=>
  intro e hF;refine⟨none,?_⟩;refine aB (λhe=>?_) (λhe=>?_);rotate_left;have he:e≠0:=he;refine cu (λ_=>?_) (λg=>absurd g he);rw[<-(ag he).symm.trans hF];exact rfl;have he:e=0:=he;subst he;replace hF:=(af (λg=>g rfl)).symm.trans hF;refine aF (λhl=>?_) (λhl=>?_);have hl:400<=x.pats.length:=by have hl:((x.pats.map mM).length:Int)≥400:=hl;rw[ah]at hl;omega
  refine cu (λ_=>?_) (λg=>absurd g (show(4:Int)≠0 by decide));rw[<-(ag hl).symm.trans hF];exact rfl;have hl:¬400<=x.pats.length:=by have hl:¬((x.pats.map mM).length:Int)≥400:=hl;rw[ah]at hl;omega
  refine cu (λg=>absurd rfl g) (λ_=>?_);rw[<-(af hl).symm.trans hF];refine cl (Mc ⟨hq,rQ⟩ oO hx.la).Xq ?_;exact rfl
theorem ab7 {α:Type}{f:α->List AV}{R:List α}{k:Nat}(h:k<R.length):gR f R=gR f (R.take k)++(aG (f R[k])++gR f (R.drop (k+1))):=by
 have e:R=R.take k++([R[k]]++R.drop (k+1)):=by rw[qb,<-bZ h,dI]
 have e1:gR f [R[k]]=aG (f R[k]):=by unfold gR;simp
 rw[<-e1,<-NT,<-NT,<-e]
theorem Vy {α:Type}{f:α->List AV}{R:List α}(ns:List Nat){aI:List (Nat×List FV)}{o:Nat}(h:Qv.getObj aI o=some (ns.foldl (λc n=>FV.eD n c) (gR f R))):∃zs,Qv.getObj aI o=some zs/\zs.length=(gR f R).length/\∀(i:Nat)(x y:FV),zs[i]?=some x->(gR f R)[i]?=some y->bh x y:=by
 have e:ns.foldl (λc n=>FV.eD n c) (gR f R)=gR f R:=by
  clear h;induction ns with
  |nil=>rfl
  |cons n ns ih=>rw[fI,agS];exact ih
 rw[e]at h;exact aH h
theorem RA {α:Type}{f:α->List AV}{e:Nat}(hf:∀x,(f x).length=e)(R:List α){i:Nat}(hi:i<=R.length):(R.map f).flatten.take (i*e)=((R.take i).map f).flatten/\(R.map f).flatten.drop (i*e)=((R.drop i).map f).flatten:=by
 have h1:((R.take i).map f).flatten.length=i*e:=by rw[fR (e:=e) λzs h=>by obtain⟨x,-,rfl⟩:=aC.1 h;exact hf x,ah,aL,ou hi]
 have h2:(R.map f).flatten=((R.take i).map f).flatten++((R.drop i).map f).flatten:=by rw[<-ot,<-aD,dI]
 rw[h2];exact⟨List.take_left' h1,List.drop_left' h1⟩
def okB (D R:List cL)(k:Nat):Bool:=kH (D.map λy=>y.id) (bI (R.getD k default).pat)
def Ya (D R:List cL)(k:Nat):List Nat:=(List.range k).filter (okB D R)
theorem ab8 (D R:List cL)(k:Nat):Ya D R (k+1)=Ya D R k++if okB D R k=true then[k]else[]:=by unfold Ya;rw[wY,qv];congr 1;rw[oe];split<;>rfl
theorem Vz (D R:List cL)(k:Nat):(Ya D R k).length<=k:=by unfold Ya;exact ck (mA _ _) (by rw[mw];exact aA _)
def uj (D R:List cL)(k:Nat):vO:=jy (lR D) (R.getD k default)
def ab9 (k:Nat):List AV:=[.int .i64 (k:Int)]
theorem acd {s:List cL}(h:vk s)(hl:s.length<=400):SzX (lR s):=by have h1:=vQ h h.ok.uY (λy hy=>hy) hl;refine⟨by have :=h1.lp;omega,λk hk=>?_,by have :=h1.la;omega,λa ha=>?_⟩;obtain⟨x,-,rfl⟩:=aC.1 hk;have :=qX x.pat;show(bI x.pat).length<=_;omega;obtain⟨x,hx,ha⟩:=gC.1 ha;have :=JC (h.q x hx) a ha;omega
theorem Ob (o:Bytes)(hz:Wo [])(hA:aq C 11 [] (λr=>r=.val (.bool true))):aq C 3 [.sl (eS []),.sl (iV o)] (λr=>r=.val (.bool true)):=by
 refine aY qu [5] Tryz.func3 rfl rfl rfl ?_;refine⟨none,?_⟩;refine cl (IU [] hz).dz ?_;cases hf:FP []with
 |false=>refine bH ?_;refine cl hA.dz ?_;exact rfl
 |true=>refine bH ?_;refine aB (λh0=>?_) (λh0=>?_);refine cl hA.dz ?_;exact rfl;refine aF (λh20=>?_) (λh20=>?_);refine cl hA.dz ?_;exact rfl;refine cl Rr.dz ?_;refine dc 97 [(0,.p (.sl (eS []))),(5,.ptr 5 0),(6,.p (.sl []))] [(5,aG (ov jV))] kK wS ⟨zK kK (bh.yY []) (bh.yY []),trivial⟩ ?_;refine bJ 97 (λ_:Unit=>[(0,.p (.sl (eS []))),(5,.ptr 5 0),(6,.p (.sl []))]) (λ_=>[(5,aG (ov jV))]) (λ_=>True) (λ_=>0) () trivial kK wS oS ?_;intro _ _;refine aF (λh=>absurd (show(0:Int)>0 from h) dD) (λ_=>?_);refine bW 7 kK ?_;refine⟨_,(ug (s:=[]) (λx hx=>(by cases hx)) dD).dz,?_⟩;refine⟨_,(JI (a:=jV) (b:=jV) ⟨dD,λk hk=>(by cases hk),dD,λa ha=>(by cases ha)⟩ ⟨dD,λk hk=>(by cases hk),dD,λa ha=>(by cases ha)⟩).dz,?_⟩;rw[an rfl];refine⟨_,hA.dz,?_⟩;exact rfl
theorem RB (s:List cL)(o:Bytes)(hs:s≠[])(hz:Wo s)(ho:o.length<=2^47)(hA:aq C 11 [] (λr=>r=.val (.bool true))):aq C 3 [.sl (eS s),.sl (iV o)] (λr=>r=.val (.bool true)):=by
 refine aY qu [10] Tryz.func3 rfl rfl rfl ?_;refine⟨none,?_⟩;refine cl (IU s hz).dz ?_;cases hf:FP s with
 |false=>refine bH ?_;refine cl hA.dz ?_;exact rfl
 |true=>
  refine bH ?_;obtain⟨hv,h8,-,-⟩:=abr hz hf;refine aB (λh0=>?_) (λh0=>?_);refine cl hA.dz ?_;exact rfl;have h0:0<o.length:=by have h0:¬((iV o).length:Int)=0:=h0;rw[show(iV o).length=o.length from ah _]at h0;omega
  refine aF (λh20=>?_) (λh20=>?_);refine cl hA.dz ?_;exact rfl;refine cl (Cc hs oO).dz ?_;refine⟨gR fU s,rfl,?_⟩;refine bJ 97 (λx:Nat×List cL×List cL=>[(0,.p (.sl (eS s))),(1,.p (.sl (iV o))),(5,.ptr 5 0),(6,.gd 31 39 37),(7,.p (.int .i64 (x.1:Int)))]) (λx=>[(5,aG (ov (lR x.2.1))),(31,gR fU x.2.2)]) (λx=>Part s x.2.1 x.2.2/\x.1+x.2.2.length=s.length) (λx=>x.2.2.length) (0,[],s) ⟨TE hv.ok.uY,de _⟩ kK wS ⟨zK kK (bh.yY []) (bh.yY []),aH kK,trivial⟩ ?_;rintro⟨i,D,R⟩ ⟨hp,hi⟩;have hp:Part s D R:=hp;have hi:i+R.length=s.length:=hi;have hDl:=hp.len;have hx1:=vQ hv hp.uY hp.sub oO;refine⟨R.length,rE mD R,?_⟩;refine aF (λhR=>?_) (λhR=>?_);rotate_left;have hR:R=[]:=by have hR:¬(R.length:Int)>0:=hR;exact bQ.1 oO
  subst hR;obtain rfl:=abz hv.ok.uY hp;refine bW 7 kK ?_;refine⟨_,(ug (λx hx=>BX hv hx) oO).dz,?_⟩;rw[Ao hv.ok.uY (tj hv)];refine⟨_,(JI (acd hv oO) (acd hv oO)).dz,?_⟩;rw[an rfl];refine⟨_,hA.dz,?_⟩;exact rfl;have hR:0<R.length:=by have hR:(R.length:Int)>0:=hR;omega
  refine⟨_,cK.refl _,?_⟩;refine⟨R.length,rE mD R,?_⟩;refine bJ 97 (λk:Nat=>[(0,.p (.sl (eS s))),(1,.p (.sl (iV o))),(5,.ptr 5 0),(6,.gd 31 39 37),(7,.p (.int .i64 (i:Int))),(8,.fM 55 30 2 ((Ya D R k).map λk=>ov (uj D R k))),(9,.fM 59 3 1 ((Ya D R k).map ab9)),(37,.gd 31 39 37),(38,.p (.int .i64 (R.length:Int))),(39,.p (.int .i64 (k:Int)))]) (λ_=>[(5,aG (ov (lR D))),(31,gR fU R)]) (λk=>k<=R.length) (λk=>R.length-k) 0 zL kK ⟨bh.refl _,bh.refl _,bh.refl _,bh.refl _,bh.refl _,bh.jK _ _ _,bh.jK _ _ _,bh.refl _,bh.refl _,bh.refl _,trivial⟩ oS ?_;intro k hk;refine aF (λhlt=>?_) (λhge=>?_);have hlt:k<R.length:=by have hlt:(k:Int)<(R.length:Int):=hlt;omega
  have hm:R[k]∈R:=aO hlt;have hss:=hp.aby _ hm;have hap:=Jy hv hp.sub oO hss (hp.apart _ hm);have hgd:R.getD k default=R[k]:=by rw[eV,av hlt];rfl
  have hok:okB D R k=kH (D.map λy=>y.id) (bI R[k].pat):=by unfold okB;rw[hgd]
  have hrd:uj D R k=jy (lR D) R[k]:=by unfold uj;rw[hgd]
  have AQ:=ab8 D R k;have WA:=Vz D R k;refine⟨k,k*37,rfl,rfl,by rw[show(gR fU R).length=R.length*37 from rE mD R];omega,?_⟩;refine⟨gR fU (R.take k),aG (fU R[k]),gR fU (R.drop (k+1)),?_,?_,?_⟩;exact ab7 hlt;rw[rE mD,aL,ou oO];refine cl (JH hx1 (vL (hv.q _ hss)) (λ_=>BX hv hss)).dz ?_;rw[hap];cases hb:okB D R k with
  |true=>rw[hok]at hb;rw[ag hb];refine aB (λ_=>?_) (λg=>absurd rfl g);rw[hok,hb,ag rfl]at AQ;refine⟨(λzs h=>by obtain⟨q,-,rfl⟩:=aC.1 h;rfl),(λzs h=>by rw[aP.1 h];rfl),by show(((Ya D R k).map λk=>ov (uj D R k)).length+1)*48<=_;rw[ah];omega,(Ya D R (k+1)).map λk=>ov (uj D R k),by rw[AQ,aD];show _=_++[ov (uj D R k)];rw[hrd];rfl,?_⟩;refine⟨(λzs h=>by obtain⟨q,-,rfl⟩:=aC.1 h;rfl),(λzs h=>by rw[aP.1 h];rfl),by show(((Ya D R k).map ab9).length+1)*8<=_;rw[ah];omega,(Ya D R (k+1)).map ab9,by rw[AQ,aD];rfl,?_⟩;exact nx (k+1) (aQ (k+1) hlt (by show R.length-(k+1)<R.length-k;omega) kK wS ⟨aH kK,Vy [11,12,54,55,58,59] kK,trivial⟩)
  |false=>rw[hok]at hb;rw[af (by rw[hb];decide)];refine aB (λg=>absurd (show(19:Int)=0 from g) dD) (λ_=>?_);rw[hok,hb,af dD,aW]at AQ;exact nx (k+1) (aQ (k+1) hlt (by show R.length-(k+1)<R.length-k;omega) kK (by rw[AQ];exact wS) ⟨aH kK,Vy [11,12] kK,trivial⟩)
  obtain rfl:k=R.length:=by have hge:¬(k:Int)<(R.length:Int):=hge;omega
  obtain⟨A,hAE⟩:∃A,Ya D R R.length=A:=⟨_,rfl⟩;have Oj:A.length<=R.length:=by rw[<-hAE];exact Vz D R _
  have hAm:∀q,q∈A->q<R.length:=λq hq=>by rw[<-hAE]at hq;simpa using(jl.1 hq).1
  have hAn:0<A.length:=by
   obtain⟨q,hq,hqn⟩:=Xs hv hp (λe=>by rw[e]at hR;exact absurd hR dD);refine nR.2 λe=>?_;have :q∈A:=by rw[<-hAE];refine jl.2 ⟨by simpa using hq,?_⟩;unfold okB;rw[eV,av hq];exact hqn
   rw[e]at this;cases this
  rw[hAE];refine aB (λg=>?_) (λ_=>?_);have g:((A.map λk=>ov (uj D R k)).length:Int)=0:=g;rw[ah]at g;omega;refine⟨by show((iV o).length:Int)≠0;rw[show(iV o).length=o.length from ah _];omega,((i%o.length:Nat):Int),by rw[show(iV o).length=o.length from ah _];exact(Int.ofNat_tmod i o.length).symm,?_⟩;have hio:i%o.length<o.length:=jh _ h0;refine ix hio ?_;generalize o[i%o.length]=c;refine⟨(c.toNat:Int),wrap64 oO (by have :=c.toNat_lt;omega),?_⟩;refine⟨by show((A.map λk=>ov (uj D R k)).length:Int)≠0;rw[ah];omega,((c.toNat%A.length:Nat):Int),by rw[ah];exact(Int.ofNat_tmod c.toNat A.length).symm,?_⟩;have hn:c.toNat%A.length<A.length:=jh _ hAn;generalize c.toNat%A.length=n at hn;refine ix (f:=λk=>ov (uj D R k)) hn ?_;have jD:(A.map ab9)[((n:Nat):Int).toNat]?=some (ab9 A[n]):=dL rfl hn;have hq:=hAm A[n] (aO hn);generalize A[n]=q at jD hq;refine bW 10 kK ?_;refine⟨oO,_,jD,rfl,?_⟩;refine⟨oO,_,jD,rfl,?_⟩;refine nx (q+1) ?_;refine .inr (.inr (DF rfl rfl (bC _) (Rz _ rfl (R.map fU).flatten R.length q (q+1) (by rw[fR (e:=37) GL,ah]) (λy hy=>by obtain⟨ys,h1,h2⟩:=wO.1 hy;exact(zO R ys h1).2 y h2) oO hq) λr ys hr=>?_));obtain⟨rfl,rfl⟩:=hr;refine⟨gR fU (R.take q++R.drop (q+1)),?_,?_⟩;rw[(RA mD R oO).1,(RA mD R (i:=q+1) oO).2,<-ot,<-aD];rfl;obtain⟨w1,w2⟩:=Xr hv hp hq;have hrd:uj D R q=lR (lW D R[q]):=by unfold uj;rw[show R.getD q default=R[q]from by rw[eV,av hq];rfl];exact w1
  have hlR:(R.take q++R.drop (q+1)).length=R.length-1:=by rw[ay,aL,cQ];omega
  exact nx (i+1) (aQ (i+1,lW D R[q],R.take q++R.drop (q+1)) ⟨w2,by show i+1+(R.take q++R.drop (q+1)).length=s.length;rw[hlR];omega⟩ (by show(R.take q++R.drop (q+1)).length<R.length;rw[hlR];omega) kK wS ⟨(by rw[<-hrd];exact aH kK),aH kK,trivial⟩)
end Qv
