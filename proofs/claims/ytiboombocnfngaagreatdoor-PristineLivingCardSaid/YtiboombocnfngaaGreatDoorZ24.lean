/- Part 30 of the proof: its lemmas. No condition. -/
import Derived.Test.YtiboombocnfngaaGreatDoorZ2
import Derived.Test.YtiboombocnfngaaGreatDoorZ3
import Derived.Test.YtiboombocnfngaaGreatDoorZ7
import Derived.Test.YtiboombocnfngaaGreatDoorZ9
import Derived.Test.YtiboombocnfngaaGreatDoorZ19
import Derived.Test.YtiboombocnfngaaGreatDoorZ20
import Derived.Test.YtiboombocnfngaaGreatDoorZ21
import Derived.Test.YtiboombocnfngaaGreatDoorZ22
set_option maxRecDepth 10000
set_option maxHeartbeats 80000000
set_option linter.all false
open Go Go.Proofs Go.RowKit
namespace Qv
theorem XN (a:bO):(AO a).length<=a.over.length+4:=by
 unfold AO;simp only[ay,aj];repeat' split
 all_goals simp only[aS,bA];omega
theorem TP (l:List bO)(i:bB):iE (rO l) i=(l.find? λa=>decide (a.id=i)).map λa=>.agg (cA a):=BE l i
theorem abq {p:iA}(h:uY p):∀a,a∈jJ p->a.over.length<=400:=λa ha=>by rw[yY h]at ha;obtain⟨b,hb,rfl⟩:=aB.1 ha;rw[SK];have h1:=ac3 (mA p).1 b.over;have h2:=(Dd p).2 b hb;omega
theorem TQ {p:iA}(h:uY p)(d:Dg)(i:Nat):(Dy p d (jJ p) i).over.length<=400:=by
 unfold Dy;have :((jJ p).getD (oB p i) de).over.length<=400:=by
  rw[dc];cases hx:(jJ p)[oB p i]?with
  |none=>exact oP _
  |some a=>exact abq h a (bP hx)
 simp only;split;exact oP _;exact this
noncomputable def zV (t:TypeId):Value:=match C.P.info? t with
 |some i=>match i.zero with|some z=>z|none=>.bool false
 |none=>.bool false
theorem TR {x:iI}{p:fk}(h:uY p.pat)(ha:au C 93 [.agg (cP p.pat)] (λr=>r=.val (.eS [.sl (kB (jJ p.pat)),.int .i64 0]))):au C 46 [.agg (Gn x),.agg (mP p)] (λr=>r=.val (.int .i64 (QG x p))):=by
 obtain⟨E,hE⟩:∃E,QG x p=E:=⟨_,rfl⟩;rw[hE];unfold QG at hE;have mG:=h.UY.changes;refine pT qz [9] Tryz.func46 rfl rfl rfl (cl ha.Xz ?_);refine bW 93 (λi:Nat=>[(2,.ptr 2 0),(3,.ptr 3 0),(5,.p (.sl (kB (jJ p.pat)))),(23,.p (.int .i64 ((p.pat.changes.map cC).length:Int))),(24,.p (.int .i64 (i:Int)))]) (λ_=>[(2,aI (Gn x)),(3,aI (mP p))]) (λi=>i<=p.pat.changes.length/\bk (((List.range p.pat.changes.length).drop i).flatMap λi=>(tF (Dy p.pat p.id (jJ p.pat) i)).map (stepG (od x) p.id))=E) (λi=>p.pat.changes.length-i) 0 ⟨zL,hE⟩ kK wS oS ?_;rintro i ⟨hi,hE⟩;refine cu (λhlt=>?_) (λhge=>?_);rotate_left;rw[cQ (by rw[ko];exact fM hge)]at hE;obtain rfl:(0:Int)=E:=hE;exact rfl;rw[bM (by rw[ko];exact hlt),sy,pR]at hE;refine cl (QW h i hlt).Xz ?_;obtain⟨Qy,-⟩:=aG.1 (LK h hlt);have hO:=TQ h p.id i;obtain⟨H,hH⟩:∃H,Dy p.pat p.id (jJ p.pat) i=H:=⟨_,rfl⟩;rw[hH]at hE hO;unfold Dy at hH;simp only[show(jJ p.pat).getD (oB p.pat i) de=(jJ p.pat)[oB p.pat i]from by rw[dc,an Qy];rfl,show p.pat.changes.getD i default=p.pat.changes[i]from by rw[dc,an hlt];rfl]at hH;refine ix Qy ?_;generalize(jJ p.pat)[oB p.pat i]=a at hH;refine ix hlt ?_;have gP:=λK (hK:K (cC p.pat.changes[i]))=>ix (f:=cC) (l:=p.pat.changes) (m:=139) (K:=K) hlt hK;generalize p.pat.changes[i]=c at hH gP;refine share (T:=?T1) (λH1=>?m1) ?r1;case m1=>refine aH (λh5=>?_) (λh5=>?_);have h5:c.kind=5:=h5;have hH2:=(af h5).symm.trans hH;refine gP _ (cw 15 kK ⟨_,(LU p.id c.eH).Xz,_,(LU p.id c.eY).Xz,_,rfl,?_⟩);refine ee 93 [(2,.ptr 2 0),(3,.ptr 3 0),(5,.p (.sl (kB (jJ p.pat)))),(8,.ptr 8 0),(23,.p (.int .i64 ((p.pat.changes.map cC).length:Int))),(24,.p (.int .i64 (i:Int)))] [(2,aI (Gn x)),(3,aI (mP p)),(8,aI (cA H))] kK wS ⟨aA kK,aA kK,by rw[<-hH2];exact Aa (xs:=(aI (cA ⟨a.id,6,a.file,0,aM,[],0,[],[],bz c.eH p.id,bz c.eY p.id,[]⟩)).take 171) kK kK (bt.Ie []),trivial⟩ ?_;exact H1.out;have h5:¬c.kind=5:=h5;have hH2:a=H:=(aa h5).symm.trans hH;refine ee 93 [(2,.ptr 2 0),(3,.ptr 3 0),(5,.p (.sl (kB (jJ p.pat)))),(8,.ptr 8 0),(23,.p (.int .i64 ((p.pat.changes.map cC).length:Int))),(24,.p (.int .i64 (i:Int)))] [(2,aI (Gn x)),(3,aI (mP p)),(8,aI (cA H))] kK wS (by rw[<-hH2];exact oS) ?_;exact H1.out
 case r1=>
  refine cl (TO H oO).Xz ?_;clear hH gP Qy;have abr:=XM H;have hok:=abp H;have hrl:=XN H;generalize tF H=X at hE abr;generalize AO H=L at abr hok hrl;rw[<-abr,dV]at hE;obtain⟨R,hR⟩:∃R,((List.range p.pat.changes.length).drop (i+1)).flatMap (λi=>(tF (Dy p.pat p.id (jJ p.pat) i)).map (stepG (od x) p.id))=R:=⟨_,rfl⟩;rw[hR]at hE;refine bW 93 (λk:Nat=>[(2,.ptr 2 0),(3,.ptr 3 0),(5,.p (.sl (kB (jJ p.pat)))),(23,.p (.int .i64 ((p.pat.changes.map cC).length:Int))),(24,.p (.int .i64 (i:Int))),(64,.p (.sl (L.map sM))),(65,.p (.int .i64 ((L.map sM).length:Int))),(66,.p (.int .i64 (k:Int)))]) (λ_=>[(2,aI (Gn x)),(3,aI (mP p))]) (λk=>k<=L.length/\bk (((L.drop k).map λr=>stepG (od x) p.id (r.id,r.sem))++R)=E) (λk=>L.length-k) 0 ⟨zL,hE⟩ kK wS oS ?_;rintro k ⟨hk,hF⟩;refine cu (λdw=>?_) (λox=>?_);rotate_left;rw[cQ (fM ox),fV,dS,<-hR]at hF;exact nx (i+1) (aU (i+1) ⟨hlt,hF⟩ mM kK wS oS);have hr:=hok L[k] (aT _);rw[bM dw,bw,cr]at hF;refine ix dw ?_;generalize L[k]=r at hr hF;refine⟨vp,cR,rfl,rfl,rfl,CR (a:=r.id.p) (b:=p.id) ?_⟩;by_cases hp:r.id.p=p.id;rw[ai hp];rw[ef (show stepG (od x) p.id (r.id,r.sem)=0 from af hp)]at hF;exact nx (k+1) (aU (k+1) ⟨dw,hF⟩ mM kK wS oS);rw[ah hp];have hf:=TP x.atoms r.id;have hs:stepG (od x) p.id (r.id,r.sem)=match od x r.id with|none=>7|some b=>if r.sem b=true then 0 else 8:=aa hp;rw[hs]at hF;cases hx:x.atoms.find? λa=>decide (a.id=r.id)with
  |none=>rw[hx]at hf;rw[show od x r.id=none from hx,fW (show(7:Int)≠0 by decide)]at hF;refine⟨FB,gr,wI.fits r.id,(by rw[show qS _ _=_ from mV wI (rO x.atoms)];exact fD wI _),none,(by rw[show qS _ _=_ from mV wI (rO x.atoms)];exact(ot wI _ r.id).trans (by rw[hf];rfl)),zV 109,kK,?_⟩;exact bR (aV (λe=>fN.val (.int .i64 e)) hF)
  |some b=>
   rw[hx]at hf;rw[show od x r.id=some b from hx]at hF;replace hF:bk ((if r.sem b=true then(0:Int)else 8)::_)=E:=hF;refine⟨FB,gr,wI.fits r.id,(by rw[show qS _ _=_ from mV wI (rO x.atoms)];exact fD wI _),some (.p (.agg (cA b))),(by rw[show qS _ _=_ from mV wI (rO x.atoms)];exact(ot wI _ r.id).trans (by rw[hf];rfl)),?_⟩;refine bR (cl (hr b).Xz ?_);cases hb:r.sem b with
   |false=>rw[hb,aa dD,fW (show(8:Int)≠0 by decide)]at hF;exact bR (aV (λe=>fN.val (.int .i64 e)) hF)
   |true=>rw[hb,af rfl,ef rfl]at hF;exact bR (nx (k+1) (aU (k+1) ⟨dw,hF⟩ mM kK wS oS))
def uC (s:List fk)(M:List (Dg×AV)):Prop:=∀d v,iE M d=some v->∃x,x∈s/\x.id=d/\v=.sl (kB (jJ x.pat))
def wY (s:List fk):List (Nat×List FV):=[(990001,[.p (.sl (jR s)),.fu 990000])]
def atV (o:Option bO):AV:=match o with|some a=>.eS [.agg (cA a),.bool true]|none=>.eS [.agg (cA de),.bool false]
theorem Uc {s:List fk}(h:GO s){M:List (Dg×AV)}(hM:uC s M){i:bB}(hi:i.p∈gO s):nL C 152 (wY s) 990000 (kE wD M) [.ptr 990001 0,.p (.agg (cI i))] (λr l'=>r=atV (lV s i)/\∃M',l'=kE wD M'/\uC s M'):=by
 refine jC qz [] Tryz.func152 rfl rfl rfl rfl rfl kK ?_;cases hl:iE M i.p with
 |some v=>
  obtain⟨x,hx,hxi,rfl⟩:=hM i.p v hl;have rL:iH s i=if i.n<0\/((jJ x.pat).length:Int)<=i.n then(de,false)else((jJ x.pat).getD i.n.toNat de,true):=by unfold iH;rw[<-hxi,rq h.ok.GL hx];rfl
  have hno:(i.n<0\/((jJ x.pat).length:Int)<=i.n)->lV s i=none:=λg=>by unfold lV;rw[rL,af g,aa dD]
  have hyes:∀hk:i.n.toNat<(jJ x.pat).length,0<=i.n->lV s i=some (jJ x.pat)[i.n.toNat]:=λhk g=>by unfold lV;rw[rL.trans (aa (λq:i.n<0\/((jJ x.pat).length:Int)<=i.n=>q.elim (λq=>absurd g oO) (λq=>absurd hk oO)))];show some ((jJ x.pat).getD i.n.toNat de)=_;rw[dc,an hk];rfl
  refine cw 11 kK ?_;refine⟨.eS [.p (.sl (kB (jJ x.pat))),.p (.bool true)],⟨vp,cR,wD.fits i.p,by simp only[aY];exact fD wD _,some (.p (.sl (kB (jJ x.pat)))),by simp only[aY];exact(ot wD M i.p).trans (by rw[hl];rfl),rfl⟩,?_⟩;refine bR ⟨none,aQ (λh0=>?_) (λh0=>?_)⟩;have h0:i.n<0:=h0;refine⟨⟨⟨kK,trivial⟩,by simp only[aY];exact bV wD _ _ _⟩,?_,M,by simp only[aY],hM⟩;rw[hno (.inl h0)];exact rfl;have h0:¬i.n<0:=h0;refine aQ (λh2=>?_) (λh2=>?_);have h2:((jJ x.pat).length:Int)<=i.n:=by have h2:i.n≥(((jJ x.pat).map cA).length:Int):=h2;rw[aj]at h2;omega
  refine⟨⟨⟨kK,trivial⟩,by simp only[aY];exact bV wD _ _ _⟩,?_,M,by simp only[aY],hM⟩;rw[hno (.inr h2)];exact rfl;have h2:i.n<((jJ x.pat).length:Int):=by have h2:¬i.n≥(((jJ x.pat).map cA).length:Int):=h2;rw[aj]at h2;omega
  have hk:i.n.toNat<(jJ x.pat).length:=oO
  refine⟨oO,_,(show((jJ x.pat).map cA)[i.n.toNat]?=some (cA (jJ x.pat)[i.n.toNat])by rw[aJ,an hk];rfl),rfl,?_⟩;refine⟨⟨⟨kK,trivial⟩,by simp only[aY];exact bV wD _ _ _⟩,?_,M,by simp only[aY],hM⟩;rw[hyes hk oO];exact rfl
 |none=>
  refine cw 11 kK ?_;refine⟨.eS [.full [],.p (.bool false)],⟨vp,cR,wD.fits i.p,by simp only[aY];exact fD wD _,none,by simp only[aY];exact(ot wD M i.p).trans (by rw[hl];rfl),.slice none 0 0,kK,rfl⟩,?_⟩;refine bR ?_;obtain⟨x,hx,hxi⟩:=aB.1 hi;have hfi:s.find? (λy=>decide (y.id=i.p))=some x:=zZ hx (ai hxi) λy hy hp=>by
   have hp:y.id=i.p:=by simpa using hp
   exact NG h.ok.GL hy hx (by rw[hp,hxi])
  have hgt:uW s i.p=(x.pat,true):=by rw[<-hxi];exact rq h.ok.GL hx
  have rL:iH s i=if i.n<0\/((jJ x.pat).length:Int)<=i.n then(de,false)else((jJ x.pat).getD i.n.toNat de,true):=by unfold iH;rw[hgt];rfl
  have hno:(i.n<0\/((jJ x.pat).length:Int)<=i.n)->lV s i=none:=λg=>by unfold lV;rw[rL,af g,aa dD]
  have hyes:∀hk:i.n.toNat<(jJ x.pat).length,0<=i.n->lV s i=some (jJ x.pat)[i.n.toNat]:=λhk g=>by unfold lV;rw[rL.trans (aa (λq:i.n<0\/((jJ x.pat).length:Int)<=i.n=>q.elim (λq=>absurd g oO) (λq=>absurd hk oO)))];show some ((jJ x.pat).getD i.n.toNat de)=_;rw[dc,an hk];rfl
  have uo:uC s (tG M i.p (.sl (kB (jJ x.pat)))):=λd v hv=>by rw[qI]at hv;by_cases e:d=i.p;rw[af e]at hv;exact⟨x,hx,by rw[e,hxi],(ak hv).symm⟩;rw[aa e]at hv;exact hM d v hv
  refine⟨.plan ⟨[0,1,2,3,4,5,6,7,8,9],[10,11],[],[3,990001]⟩ (.one 0 (.one 1 (.one 2 (.one 3 (.one 4 (.one 5 (.one 6 (.one 7 (.one 8 (.one 9 (.alt 10 (.alt 11 (.one 12 (.fin)) (.stop)) (.stop)))))))))))) none,kK,?_⟩;refine⟨_,rfl,rfl,_,rfl,rfl,_,rfl,rfl,_,rfl,rfl,_,rfl,rfl,_,rfl,rfl,?_⟩;refine⟨.p (.eS [.agg (cP x.pat),.bool true]),⟨_,(QA s x i.p hfi (by have :=h.ok.few;omega)).dY,λr hr=>by subst hr;rfl⟩,rfl,?_⟩;refine⟨_,rfl,rfl,_,rfl,rfl,_,rfl,rfl,rfl,rfl,_,rfl,cl ((TS h hx).atoms).dY (cw 7 kK ⟨vp,cR,wD.fits i.p,(by simp only[aY];exact fD wD _),kE wD (tG M i.p (.sl (kB (jJ x.pat)))),(by simp only[aY];exact uy wD _ i.p _),?_⟩)⟩;refine⟨none,aQ (λh0=>?_) (λh0=>?_)⟩;have h0:i.n<0:=h0;refine⟨⟨⟨kK,trivial⟩,bV wD _ _ _⟩,?_,_,by simp only[aY],uo⟩;rw[hno (.inl h0)];exact rfl;have h0:¬i.n<0:=h0;refine aQ (λh2=>?_) (λh2=>?_);have h2:((jJ x.pat).length:Int)<=i.n:=by have h2:i.n≥(((jJ x.pat).map cA).length:Int):=h2;rw[aj]at h2;omega
  refine⟨⟨⟨kK,trivial⟩,bV wD _ _ _⟩,?_,_,by simp only[aY],uo⟩;rw[hno (.inr h2)];exact rfl;have h2:i.n<((jJ x.pat).length:Int):=by have h2:¬i.n≥(((jJ x.pat).map cA).length:Int):=h2;rw[aj]at h2;omega
  have hk:i.n.toNat<(jJ x.pat).length:=oO
  refine⟨oO,_,(show((jJ x.pat).map cA)[i.n.toNat]?=some (cA (jJ x.pat)[i.n.toNat])by rw[aJ,an hk];rfl),rfl,?_⟩;refine⟨⟨⟨kK,trivial⟩,bV wD _ _ _⟩,?_,_,by simp only[aY],uo⟩;rw[hyes hk oO];exact rfl
theorem Rn (l:List Dg)(S:List Dg):(l.any λd=>!decide (d∈S))=!oM S l:=by unfold oM;rw[List.not_all_eq_any_not]
theorem Ro {x:iI}(hx:adV x){p:fk}(hi:au C 41 [.agg (cP p.pat)] (λr=>r=.val (idR (mA p.pat))))(ht:(mA p.pat).2=0->uY p.pat)(hT:(mA p.pat).2=0->(mA p.pat).1=p.id->p.id∉qb x->oM (qb x) (bU p.pat)=true->OkT p):au C 13 [.agg (iD x),.agg (mP p)] (λr=>r=.val (aiq (BA x p))):=by
 obtain⟨R,hR⟩:∃R,BA x p=R:=⟨_,rfl⟩;rw[hR];unfold BA at hR;refine pT qz [13] Tryz.func13 rfl rfl rfl (cl hi.Xz (eD (λh=>?_) (λh=>?_)));have h:(mA p.pat).2≠0:=h;rw[af h]at hR;rw[<-hR];exact rfl;have h:(mA p.pat).2=0:=h;rw[aa (λg=>g h)]at hR;have hq:=ht h;have hT:=hT h;have hn:au C 45 [.agg (cP p.pat)] (λr=>r=.val (.sl (tK (bU p.pat)))):=by have :=yW hq;rwa[IT hq]at this
 have hnl:(bU p.pat).length<=2^47:=by have :=Iy p.pat;omega
 refine cl (TF hx).Xz ⟨[8],cZ (cells:=aI (Gn x)) (ys:=Gn x) rfl (bu _) rfl ⟨vp,cR,rfl,rfl,rfl,qX (a:=(mA p.pat).1) (b:=p.id) (share (T:=?T1) (λH1=>?m1) ?r1)⟩⟩;case m1=>
  by_cases hid:(mA p.pat).1=p.id;rotate_left;rw[ah hid];have hR:=(af hid).symm.trans hR;obtain⟨e,he⟩:∃e:Int,e=13:=⟨_,rfl⟩;have hF:(if e≠0 then(nI,e)else if 400<=x.pats.length then(nI,4)else(kO x p,0))=R/\(e=0->OkT p):=⟨by rw[he];exact hR,λc=>absurd c (by rw[he];decide)⟩;refine ee 57 [(2,.ptr 2 0),(3,.ptr 3 0),(4,.ptr 4 0),(7,.p (.int .i64 e))] [(2,aI (iD x)),(3,aI (mP p)),(4,[.full [],.full []])] kK (by rw[he];exact wS) oS ?_;clear he;revert e;exact H1.out;rw[ai hid];have hR:=(aa (λg=>g hid)).symm.trans hR;refine cl (Jh x (mA p.pat).1).Xz (bR ?_);rw[hid];by_cases hm:p.id∈qb x;rw[ai hm];have hR:=(af hm).symm.trans hR;obtain⟨e,he⟩:∃e:Int,e=6:=⟨_,rfl⟩;have hF:(if e≠0 then(nI,e)else if 400<=x.pats.length then(nI,4)else(kO x p,0))=R/\(e=0->OkT p):=⟨by rw[he];exact hR,λc=>absurd c (by rw[he];decide)⟩;refine ee 57 [(2,.ptr 2 0),(3,.ptr 3 0),(4,.ptr 4 0),(7,.p (.int .i64 e))] [(2,aI (iD x)),(3,aI (mP p)),(4,[.full [],.full []])] kK (by rw[he];exact wS) oS ?_;clear he;revert e;exact H1.out;rw[ah hm];have hR:=(aa hm).symm.trans hR;refine cl hn.Xz (cl (Qz (bU p.pat) 43 (.imp (Gn x)) (λd=>!decide (d∈qb x)) (λd _=>Jh x d) hnl).Xz ?_);rw[Rn];cases ha:oM (qb x) (bU p.pat)with
  |false=>have hR:=(af ha).symm.trans hR;obtain⟨e,he⟩:∃e:Int,e=19:=⟨_,rfl⟩;have hF:(if e≠0 then(nI,e)else if 400<=x.pats.length then(nI,4)else(kO x p,0))=R/\(e=0->OkT p):=⟨by rw[he];exact hR,λc=>absurd c (by rw[he];decide)⟩;refine ee 57 [(2,.ptr 2 0),(3,.ptr 3 0),(4,.ptr 4 0),(7,.p (.int .i64 e))] [(2,aI (iD x)),(3,aI (mP p)),(4,[.full [],.full []])] kK (by rw[he];exact wS) oS ?_;clear he;revert e;exact H1.out
  |true=>have hR:=(aa (show¬oM (qb x) (bU p.pat)=false by rw[ha];decide)).symm.trans hR;have hT:=hT hid hm ha;refine cl (TR (x:=x) hq hT.atoms).Xz ?_;obtain⟨e,he⟩:∃e:Int,e=QG x p:=⟨_,rfl⟩;have hF:(if e≠0 then(nI,e)else if 400<=x.pats.length then(nI,4)else(kO x p,0))=R/\(e=0->OkT p):=⟨by rw[he];exact hR,λ_=>hT⟩;refine ee 57 [(2,.ptr 2 0),(3,.ptr 3 0),(4,.ptr 4 0),(7,.p (.int .i64 e))] [(2,aI (iD x)),(3,aI (mP p)),(4,[.full [],.full []])] kK (by rw[he];exact wS) oS ?_;clear he;revert e;exact H1.out
 case r1=>
  intro e hFT;obtain⟨hF,hT2⟩:=hFT;refine⟨none,aH (λhe=>?_) (λhe=>?_)⟩;rotate_left;have he:e≠0:=he;refine eD (λ_=>?_) (λg=>absurd g he);rw[<-(af he).symm.trans hF];exact rfl;have he:e=0:=he;have hT3:=hT2 he;subst he;replace hF:=(aa (λg=>g rfl)).symm.trans hF;refine aQ (λhl=>?_) (λhl=>?_);have hl:400<=x.pats.length:=by have hl:((x.pats.map jc).length:Int)≥400:=hl;rw[aj]at hl;omega
  refine eD (λ_=>?_) (λg=>absurd g (show(4:Int)≠0 by decide));rw[<-(af hl).symm.trans hF];exact rfl;have hl:¬400<=x.pats.length:=by have hl:¬((x.pats.map jc).length:Int)≥400:=hl;rw[aj]at hl;omega
  refine eD (λg=>absurd rfl g) (λ_=>?_);rw[<-(aa hl).symm.trans hF];refine cl (LV hT3 oO hx.la).Xz ?_;exact rfl
theorem TV {x:iI}(hx:adV x){p:fk}(hi:au C 41 [.agg (cP p.pat)] (λr=>r=.val (idR (mA p.pat))))(ht:(mA p.pat).2=0->OkT p):au C 13 [.agg (iD x),.agg (mP p)] (λr=>r=.val (aiq (BA x p))):=Ro hx hi (λh=>(ht h).q) λh _ _ _=>ht h
end Qv
