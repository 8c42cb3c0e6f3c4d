/- Part 46 of the proof: its lemmas. No condition. -/
import Derived.Test.YtlbofhenpfnenaaGreatDoorV4
import Derived.Test.YtlbofhenpfnenaaGreatDoorV9
import Derived.Test.YtlbofhenpfnenaaGreatDoorV19
import Derived.Test.YtlbofhenpfnenaaGreatDoorV20
set_option maxRecDepth 10000
set_option maxHeartbeats 80000000
set_option linter.all false
open Go Go.Proofs Go.RowKit
namespace Qv
theorem adb {α:Type}:∀(l:List (bg×List α))(x:bg)(d:α),(∀p,p∈l->p.2≠[])->∀p,p∈PC l x d->p.2≠[]
 |[],x,d,_,p,hp=>by obtain rfl:=aS.1 hp;simp
 |(y,w)::l,x,d,h,p,hp=>by unfold PC at hp;by_cases e:x=y;rw[af e]at hp;rcases aQ.1 hp with rfl|hp;simp;exact h p (bq _ hp);rw[aa e]at hp;rcases aQ.1 hp with rfl|hp;exact h _ (by simp);exact adb l x d (λq hq=>h q (bq _ hq)) p hp
theorem ade (a:bD):∀(o:List bg)(P:List bg×List (bg×List bg)),(∀p,p∈P.2->p.2≠[])->∀p,p∈(o.foldl (JZ a) P).2->p.2≠[]|[],P,h=>h|y::o,P,h=>ade a o (JZ a P y) (adb P.2 y a.id h)
theorem adf:∀(l:List bD)(p:bg×List bg),p∈(By l).2->p.2≠[]
 |[],p,h=>by cases h
 |a::l,p,h=>by have ih:=adf l;have h:p∈(wJ a (By l)).2:=h;unfold wJ at h;split at h;exact ih p h;exact ade a a.over _ ih p h
theorem WZ (x:bg):Lu (cI x)=true:=rfl
theorem MW (x:bg):∀K:List (bg×List bg),pq (.agg (cI x)) (K.map λp=>(.agg (cI p.1),iq p.2))=(match uA (Pc K) x with|some _=>some (iq (pU K x))|none=>none)|[]=>rfl|(y,w)::K=>by show(match kg (.agg (cI x)) (.agg (cI y))with|true=>some (iq w)|false=>pq (.agg (cI x)) (K.map λp=>(.agg (cI p.1),iq p.2)))=(match(if x=y then some (AV.sl (iq w))else uA (Pc K) x)with|some _=>some (iq (if x=y then w else pU K x))|none=>none);rw[JW,MW x K];by_cases h:x=y;rw[an h,af h,af h];rw[ah h,aa h,aa h]
theorem vo (x:bg)(o T z:Nat)(K:List (bg×List bg)):∀p,p∈rJ (.agg (cI x)) o T z (K.map λp=>(.agg (cI p.1),iq p.2))->gB true yY p.1=true:=by
 intro p hp;obtain⟨i,hi,rfl⟩:=gz hp;have hg:=av hi;obtain⟨-,h⟩:=Cr (.agg (cI x)) o T z (K.map λp=>(AV.agg (cI p.1),iq p.2));have key:∃q:AV×List (List AV),(K.map λp=>(AV.agg (cI p.1),iq p.2))[i]?=some q/\((rJ (.agg (cI x)) o T z (K.map λp=>(AV.agg (cI p.1),iq p.2)))[i]).1=q.1:=by rcases h with⟨-,h⟩|⟨j,p0,-,-,h⟩;obtain⟨q,h1,h2⟩:=h i _ hg;exact⟨q,h1,by rw[h2]⟩;obtain⟨q,h1,h2⟩:=h i _ hg;exact⟨q,h1,by rcases h2 with⟨-,h2⟩|h2<;>rw[h2]⟩
 obtain⟨q,h1,h2⟩:=key;rw[h2];rw[aR]at h1;obtain⟨y,-,rfl⟩:=qc.1 h1;exact jQ y.1
theorem sy (key:AV)(o T z:Nat):∀l:List (AV×List (List AV)),rW key (rJ key o T z l)=(pq key l).map λ_=>FV.fe o T z
 |[]=>rfl
 |p::l=>by
  unfold rJ pq;cases h:kg key p.1 with
  |true=>show(match kg key p.1 with|true=>some (FV.fe o T z)|false=>_)=_;rw[h];rfl
  |false=>show(match kg key p.1 with|true=>some FV.dF|false=>rW key (rJ key o T z l))=_;rw[h,sy key o T z l]
theorem agC {aN:List (Nat×List FV)}{o:Nat}{X:List AV}(k:Nat)(h:Qv.getObj aN o=some (FV.eL k (aH X))):∃ys,Qv.getObj aN o=some ys/\ys.length=(aH X).length/\∀(i:Nat)(x y:FV),ys[i]?=some x->(aH X)[i]?=some y->aF x y:=by rw[jj]at h;exact aC h
theorem SC {s:List bO}(h:oE s)(x:bg):ak C 122 [.sl (cn s),.agg (cI x)] (λr=>r=.val (.sl (iq (ej s x)))):=by
 have hR:ak C 122 [.sl (cn s),.agg (cI x)] (λr=>r=.own none 33 33 (iq (ej s x))\/r=.val (.sl (iq (ej s x)))):=by
  have hks:ej s x=if(pQ (cz s) x).2=true then oU (pU (By (fL s (bA s))).2 x)else[]:=by unfold ej;rw[WY,Zb h]
  have hml:=Kc h;have Pw:=Ph (M:=400) (fL s (bA s)) x λa ha=>rj a ha;have Ua:=sq s (bA s);have hor:=pG s;have afx:=h.ok.OK;have hne:=adf (fL s (bA s));have Yq:(pU (By (fL s (bA s))).2 x).length<=2^40:=by have h3:2^22*(bA s).length<=2^22*400:=jv _ oO;have h4:(fL s (bA s)).length*400<=2^22*400*400:=dO _ oO;omega
  rw[hks];generalize(By (fL s (bA s))).2=M at*;refine Kf (.agg (cI x)) 17 19 33 33 {vu with inl:=[115]} [] Tryz.func122 rfl rfl rfl ?_;refine cl (Sq h x).dN ?_;generalize pQ (cz s) x=F;obtain⟨y,b⟩:=F;refine bl ?_;cases b with
  |false=>rw[aa (show¬false=true by decide)];exact .inr (.inr rfl)
  |true=>
   rw[af (show true=true from rfl)];have hin:∀p,p∈M.map (λp=>(AV.agg (cI p.1),iq p.2))->p.1.Ke=true/\p.2≠[]/\∀ys,ys∈p.2->ys.length=33/\∀y,y∈ys->y.flat=true:=λp hp=>by obtain⟨q,hq,rfl⟩:=aI.1 hp;refine⟨WZ q.1,λe=>hne q hq (List.map_eq_nil_iff.1 e),λys hy=>?_⟩;obtain⟨i,-,rfl⟩:=aI.1 hy;exact⟨rfl,EK (WZ i)⟩
   have hfr:=MW x M;rcases Sw M x with⟨w,h1,h2⟩|⟨h1,h2⟩;rw[h1,h2]at hfr;replace hfr:pq (.agg (cI x)) (M.map λp=>(AV.agg (cI p.1),iq p.2))=some (iq w):=hfr;rw[h2]at Yq⊢;refine⟨.plan ⟨[],[],[1,3,4],[]⟩ (.one 0 (.alt 1 (.one 2 (.alt 3 (.alt 4 .fin .stop) .stop)) (.alt 2 (.alt 1 (.alt 3 (.alt 4 .fin .stop) .stop) .stop) .stop))) (some (sg 23 0 [(7,.fe 19 33 33)] [(19,aH (iq w).flatten)] [] [] [])),kK,?_,?_⟩;refine⟨_,rfl,?_⟩;refine⟨?_,?_⟩;refine .inl (.inl ⟨⟨dD,dD,dD,rfl⟩,[.sl (cn s)],_,rfl,hml,λl hl=>⟨by rw[hl];exact hin,?_⟩⟩);subst hl;rw[hfr];refine⟨_,rfl,?_⟩;refine⟨yY,ee,jQ _,vo x 19 33 33 M,some (.fe 19 33 33),(sy (.agg (cI x)) 19 33 33 _).trans (aB (Option.map λ_=>FV.fe 19 33 33) hfr),?_⟩;exact bw kK wS ⟨agC 17 kK,trivial⟩ trivial trivial;refine⟨_,rfl,?_⟩;refine .inl (.inl ⟨⟨dD,dD,dD,rfl⟩,[.sl (cn s)],_,rfl,hml,λl hl=>⟨by rw[hl];exact hin,?_⟩⟩);subst hl;rw[hfr];refine⟨yY,ee,jQ _,vo x 19 33 33 M,some (.fe 19 33 33),(sy (.agg (cI x)) 19 33 33 _).trans (aB (Option.map λ_=>FV.fe 19 33 33) hfr),?_⟩;exact bw kK wS ⟨agC 17 kK,trivial⟩ trivial trivial;refine .inr (.inr (An rfl rfl (bk _) (JE _ rfl w Yq) λr ys hr=>?_));obtain⟨rfl,rfl⟩:=hr;exact⟨iq (oU w),OO,bk _,.inl rfl⟩;rw[h1]at hfr;replace hfr:pq (.agg (cI x)) (M.map λp=>(AV.agg (cI p.1),iq p.2))=none:=hfr;rw[h2];refine⟨.plan ⟨[],[],[1,3,4],[]⟩ (.one 0 (.alt 1 (.one 2 (.alt 3 (.alt 4 .fin .stop) .stop)) (.alt 2 (.alt 1 (.alt 3 (.alt 4 .fin .stop) .stop) .stop) .stop))) (some (sg 23 0 [(7,.full [])] [] [] [] [])),kK,?_,?_⟩;refine⟨_,rfl,?_⟩;refine⟨?_,?_⟩;refine .inl (.inl ⟨⟨dD,dD,dD,rfl⟩,[.sl (cn s)],_,rfl,hml,λl hl=>⟨by rw[hl];exact hin,?_⟩⟩);subst hl;rw[hfr];refine⟨_,rfl,?_⟩;refine⟨yY,ee,jQ _,vo x 19 33 33 M,none,(sy (.agg (cI x)) 19 33 33 _).trans (aB (Option.map λ_=>FV.fe 19 33 33) hfr),.slice none 0 0,kK,?_⟩;exact bw kK wS trivial trivial trivial;refine⟨_,rfl,?_⟩;refine .inl (.inl ⟨⟨dD,dD,dD,rfl⟩,[.sl (cn s)],_,rfl,hml,λl hl=>⟨by rw[hl];exact hin,?_⟩⟩);subst hl;rw[hfr];refine⟨yY,ee,jQ _,vo x 19 33 33 M,none,(sy (.agg (cI x)) 19 33 33 _).trans (aB (Option.map λ_=>FV.fe 19 33 33) hfr),.slice none 0 0,kK,?_⟩;exact bw kK wS trivial trivial trivial;refine cl (Ed 118).dN ?_;exact .inr (.inr (by rw[show oU []=[]from by simp[oU]];rfl))
 exact ak.Ak hR
def ahV:List FV->List FV->Prop|[],[]=>True|x::xs,y::ys=>aF x y/\ahV xs ys|_,_=>False
theorem Kg:∀{xs ys:List FV},ahV xs ys->xs.length=ys.length/\∀(i:Nat)(x y:FV),xs[i]?=some x->ys[i]?=some y->aF x y
 |[],[],_=>⟨rfl,λi x y h _=>by simp at h⟩
 |x::xs,y::ys,h=>by
  obtain⟨h1,h2⟩:=Kg h.2;refine⟨by rw[aL,aL,h1],λi a b ha hb=>?_⟩;cases i with
  |zero=>simp at ha hb;subst ha;subst hb;exact h.1
  |succ i=>exact h2 i a b (by simpa using ha) (by simpa using hb)
 |[],_::_,h=>h.elim
 |_::_,[],h=>h.elim
theorem adg {aN:List (Nat×List FV)}{o:Nat}{xs ys:List FV}(h:Qv.getObj aN o=some xs)(hw:ahV xs ys):∃zs,Qv.getObj aN o=some zs/\zs.length=ys.length/\∀(i:Nat)(x y:FV),zs[i]?=some x->ys[i]?=some y->aF x y:=⟨xs,h,(Kg hw).1,(Kg hw).2⟩
theorem GR {b c:Bool}(h:c=b):FV.p (.bool b)=.p (.bool c):=by rw[h]
def Pp (f:bg)(a:bD):Bool:=decide (a.file=f/\2<=a.kind/\a.kind<=6)
def vH (R:List bg)(f:bg)(a:bD):Bool:=decide (a.kind=2/\a.parent=f/\a.file∈R)
def SD (R:List bg)(f:bg)(a:bD):Bool:=decide (a.id∈R)&&(Pp f a||vH R f a)
def Zc (s:List bO)(l:List bD)(R:List bg)(X:List (List AV))(Y Z:List AV):List AV:=[.sl (cn s),.sl (l.map cA),.mp (iK (rT R)) (iV (rT R)),.sl X,.mp Y Z,.lu,.lu]
theorem Vl (s:List bO)(l:List bD)(R:List bg)(X:List (List AV))(Y Z:List AV)(f:bg):ak C 123 [.agg (Zc s l R X Y Z),.agg (cI f)] (λr=>r=.val (.fn (.func 153) [] [.imp (Zc s l R X Y Z),.imp (cI f)])):=by refine ag Tryz.func123 rfl rfl rfl ?_;refine⟨[2,3],cu (cells:=aH (Zc s l R X Y Z)) (ys:=Zc s l R X Y Z) rfl (bk _) rfl (cu (cells:=aH (cI f)) (ys:=cI f) rfl (bk _) rfl ?_)⟩;exact rfl
theorem Zd {s:List bO}(h:oE s)(l:List bD)(R:List bg)(X:List (List AV))(Y Z:List AV)(k u:bg)(hk:k.p∈dx s):ak C 125 [.agg (cI k),.imp (Zc s l R X Y Z),.imp (cI u)] (λr=>r=.val (.bool (je s k.p u.p))):=by refine ag Tryz.func125 rfl rfl rfl ?_;refine cl (YO h hk u.p) ?_;exact rfl
def adh:List (Nat×FV):=[(2,.ptr 2 0),(3,.ptr 3 0),(5,.ptr 5 0),(6,.ptr 6 0)]
def adi (s:List bO)(l:List bD)(R:List bg)(X:List (List AV))(Y Z:List AV)(f:bg)(ks O:List bg):List (Nat×List FV):=[(2,aH (Zc s l R X Y Z)),(3,aH (cI f)),(5,[.p (.sl (ks.map cI))]),(6,[.eH 2023 33 33 (O.map cI)])]
noncomputable abbrev CU:Ctx:=(C.cut []).open vu
noncomputable def YcU:pE:=match Tryz.f95.body with
 |some c=>match vA c with|some (ps,a,b)=>sR jC (uM CU (jc CU 6) jC a) (uM CU (jc CU 6) jC b) ps.toList 0 0|none=>jC
 |none=>jC
def ajX (s:List bO)(l:List bD)(R:List bg)(X:List (List AV))(Y Z:List AV)(f:bg)(k:Nat):List (Nat×FV):=[(0,.ni 1000000),(1,.p (.imp (Zc s l R X Y Z))),(2,.p (.imp (cI f))),(9,.p (.sl (l.map cA))),(10,.p (.int .i64 ((l.map cA).length:Int))),(11,.p (.int .i64 k))]
abbrev stU (s:List bO)(l:List bD)(R:List bg)(X:List (List AV))(Y Z:List AV)(f:bg)(ks O:List bg)(k:Nat):ai:=sg 64 1000 ((56,.p (.bool true))::ajX s l R X Y Z f k) (adi s l R X Y Z f ks O) [(25,0,adh)] [.ready] []
theorem ahW (s:List bO)(l:List bD)(R:List bg)(X:List (List AV))(Y Z:List AV)(f:bg)(ks O:List bg)(k:Nat)(u:bg)(b:Bool)(hO:O.length<=2^40)(ahX:ak C 124 [.sl (ks.map cI),.fn (.func 125) [] [.imp (Zc s l R X Y Z),.imp (cI u)]] (λr=>r=.val (.bool b)))(K':FV->ai->Prop)(uF:∀S',bM S' (stU s l R X Y Z f ks (O++if b=true then[]else[u]) k)->K' (.p (.bool true)) S'):YcU 1000000 [.agg (aH (cI u))] K' (stU s l R X Y Z f ks O k):=by
 refine⟨rfl,?_⟩;refine⟨[],?_⟩;refine .inr (.inl (.inr ⟨[.sl (ks.map cI),.fn (.func 125) [] [.imp (Zc s l R X Y Z),.imp (cI u)]],_,.cons (.plain rfl) (.cons (.fn .nil (.cons (.ptr rfl (.plain rfl) (by intro y hy;exact bY.1 (show(Zc s l R X Y Z).all AV.one=true from rfl) y hy)) (.cons (.ptr rfl (.plain rfl) (by intro y hy;exact bY.1 (show(cI u).all AV.one=true from rfl) y hy)) .nil))) .nil),ahX.dN,λr hr=>?_⟩));subst hr;refine⟨⟨_,rfl,rfl⟩,?_⟩;refine bl ?_;cases b with
 |true=>rw[af rfl,aY]at uF;exact uF _ (bw kK wS oS ⟨rfl,wS,trivial⟩ trivial)
 |false=>rw[aa (show¬false=true by decide)]at uF;refine⟨fB,fB (l:=[u]),by show((O.map cI).length+1)*40<=_;rw[aj];omega,(O++[u]).map cI,by rw[aM];rfl,?_⟩;exact uF _ (bw kK wS oS ⟨rfl,wS,trivial⟩ trivial)
theorem adj {s:List bO}(h:oE s)(l:List bD)(hl:l.length<=2^40)(R:List bg)(X:List (List AV))(Y Z:List AV)(f:bg)(Pw:(ej s f).length<=2^40)(hks:∀k,k∈ej s f->k.p∈dx s):ak C 95 [.agg (Zc s l R X Y Z),.agg (cI f)] (λr=>r=.val (.sl (iq ((l.filter λa=>SD R f a&&!((ej s f).any λk=>je s k.p a.id.p)).map λa=>a.id)))):=by
 have ahX:∀u:bg,ak C 124 [.sl ((ej s f).map cI),.fn (.func 125) [] [.imp (Zc s l R X Y Z),.imp (cI u)]] (λr=>r=.val (.bool ((ej s f).any λk=>je s k.p u.p))):=λu=>acF (ej s f) 125 _ _ (λk=>je s k.p u.p) (λk hk=>Zd h l R X Y Z k u (hks k hk)) oO;refine lJ vu [] Tryz.func95 rfl rfl rfl ?_;refine cl (SC h f).dN ?_;refine cl (Vl s l R X Y Z f).dN ?_;generalize aoQ:ej s f=ks at*;have hwk:∀u:bg,∃b,(ks.any λk=>je s k.p u.p)=b:=λu=>⟨_,rfl⟩;generalize hg:(λa:bD=>SD R f a&&!(ks.any λk=>je s k.p a.id.p))=g;have hga:∀a:bD,g a=(SD R f a&&!(ks.any λk=>je s k.p a.id.p)):=λa=>by rw[<-hg]
 unfold iq;refine⟨_,Tryz.func153,rfl,rfl,rfl,sg 25 0 adh (adi s l R X Y Z f ks []) [] [.ready] [],bw kK wS ⟨aC kK,aC kK,aC kK,adg (xs:=[.full []]) kK ⟨aF.mI _ _ _,trivial⟩,trivial⟩ trivial trivial,?_⟩;refine um 64 1000 (λk:Nat=>ajX s l R X Y Z f k) (λk=>adi s l R X Y Z f ks (((l.take k).filter g).map λa=>a.id)) (λ_=>[(25,0,adh)]) [.ready] (λ_=>[]) (λk=>k<=l.length) (λk=>l.length-k) 0 (zL) kK wS oS ⟨rfl,wS,trivial⟩ trivial ?_;intro k hk;refine bQ (λhlt=>?_) (λhge=>?_);rotate_left;obtain rfl:k=l.length:=oO
 rw[aJ];refine⟨_,bM.refl _,?_⟩;exact .inr rfl;have hst:((l.take (k+1)).filter g).map (λa=>a.id)=((l.take k).filter g).map (λa=>a.id)++if g l[k]=true then[l[k].id]else[]:=by rw[iJ hlt,aM];congr 1;split<;>rfl
 have hO:(((l.take k).filter g).map λa=>a.id).length<=k:=by rw[aj];exact bH (di _ _) (by rw[aD];omega)
 rw[hga]at hst;generalize((l.take k).filter g).map (λa=>a.id)=O at hst hO⊢;have iX:(l.map cA)[((k:Nat):Int).toNat]?=some (cA l[k]):=ct rfl hlt;have sO:k+1<=l.length:=hlt;refine⟨oO,_,iX,rfl,?_⟩;generalize l[k]=a at hst iX⊢;refine⟨some (λvs=>vs=[.p (.bool (Pp f a))]),Rc (.p (.bool (Pp f a))) 6 rfl ?_ ?_⟩;refine ou ?_;refine iu (a:=a.file) (b:=f) ?_;unfold Pp;by_cases h1:a.file=f;rw[an h1];refine az (λh2=>?_) (λh2=>?_);refine az (λh3=>?_) (λh3=>?_);exact GR (an ⟨h1,h2,h3⟩);exact GR (ah λg=>h3 g.2.2);exact GR (ah λg=>h2 g.2.1);rw[ah h1];exact GR (ah λg=>h1 g.1);refine⟨some (λvs=>vs=[.p (.bool (vH R f a))]),Rc (.p (.bool (vH R f a))) 7 rfl ?_ ?_⟩;refine aA (λh1=>?_) (λh1=>?_);refine ou ?_;refine iu (a:=a.parent) (b:=f) ?_;unfold vH;by_cases h2:a.parent=f;rw[an h2];by_cases h3:a.file∈R;refine⟨.p (.bool true),⟨yY,ee,jQ _,(by rw[fC];exact gA _),some (.p (.bool true)),(by rw[fC];exact sx h3),rfl⟩,?_⟩;exact GR (an ⟨h1,h2,h3⟩);refine⟨.p (.bool false),⟨yY,ee,jQ _,(by rw[fC];exact gA _),none,(by rw[fC];exact vk h3),.bool false,kK,rfl⟩,?_⟩;exact GR (ah λg=>h3 g.2.2);rw[ah h2];exact GR (ah λg=>h2 g.2.1);unfold vH;exact GR (ah λg=>h1 g.1);have SQ:SD R f a=(decide (a.id∈R)&&(Pp f a||vH R f a)):=rfl;rw[SQ]at hst;generalize Pp f a=b1 at hst⊢;generalize vH R f a=b2 at hst⊢;refine⟨none,?_⟩;by_cases h3:a.id∈R;rotate_left;rw[ah h3,jy,jy,aa (show¬false=true by decide),aY]at hst;refine⟨yY,ee,jQ _,(by rw[fC];exact gA _),none,(by rw[fC];exact vk h3),.bool false,kK,?_⟩;exact nx (k+1) (iH (k+1) sO oO kK wS ⟨aC kK,aC kK,aC kK,aC (by rw[hst];kernel_rfl),trivial⟩ ⟨rfl,wS,trivial⟩ trivial);rw[an h3,gQ]at hst;refine⟨yY,ee,jQ _,(by rw[fC];exact gA _),some (.p (.bool true)),(by rw[fC];exact sx h3),?_⟩;have hyes:∀K':FV->ai->Prop,(b1||b2)=true->(∀S',bM S' (stU s l R X Y Z f ks (((l.take (k+1)).filter g).map λa=>a.id) k)->K' (.p (.bool true)) S')->YcU 1000000 [.agg (aH (cI a.id))] K' (stU s l R X Y Z f ks O k):=λK' hb uF=>by
  refine ahW s l R X Y Z f ks O k a.id (ks.any λk=>je s k.p a.id.p) oO (ahX a.id) K' λS' hw=>uF S' ?_;have e:((l.take (k+1)).filter g).map (λa=>a.id)=O++if(ks.any λk=>je s k.p a.id.p)=true then[]else[a.id]:=by rw[hst,hb,gQ];cases ks.any λk=>je s k.p a.id.p<;>rfl
  rw[e];exact hw
 cases b1 with
 |true=>refine⟨stU s l R X Y Z f ks O k,bw kK wS oS ⟨rfl,wS,trivial⟩ trivial,?_⟩;refine hyes _ rfl λS' hw=>⟨_,hw,?_⟩;refine bl ?_;exact nx (k+1) (iH (k+1) sO oO kK wS oS ⟨rfl,wS,trivial⟩ trivial)
 |false=>
  cases b2 with
  |true=>refine⟨stU s l R X Y Z f ks O k,bw kK wS oS ⟨rfl,wS,trivial⟩ trivial,?_⟩;refine hyes _ rfl λS' hw=>⟨_,hw,?_⟩;refine bl ?_;exact nx (k+1) (iH (k+1) sO oO kK wS oS ⟨rfl,wS,trivial⟩ trivial)
  |false=>rw[iW,jy,aa (show¬false=true by decide),aY]at hst;exact nx (k+1) (iH (k+1) sO oO kK wS ⟨aC kK,aC kK,aC kK,aC (by rw[hst];kernel_rfl),trivial⟩ ⟨rfl,wS,trivial⟩ trivial)
theorem Ze {s:List bO}(h:oE s)(l:List bD)(hl:l.length<=2^40)(R:List bg)(X:List (List AV))(Y Z:List AV)(f:bg)(Pw:(ej s f).length<=2^40)(hks:∀k,k∈ej s f->k.p∈dx s):ak C 60 [.agg (Zc s l R X Y Z),.agg (cI f)] (λr=>r=.val (.bool (!decide (f∈R)&&decide ((l.filter λa=>SD R f a&&!((ej s f).any λk=>je s k.p a.id.p)).length=0)))):=by
 have hun:=adj h l hl R X Y Z f Pw hks;refine ag Tryz.func60 rfl rfl rfl ?_;generalize(l.filter λa=>SD R f a&&!((ej s f).any λk=>je s k.p a.id.p))=U at*;refine⟨none,?_⟩;by_cases h3:f∈R;rw[an h3];refine⟨yY,ee,jQ _,(by rw[fC];exact gA _),some (.p (.bool true)),(by rw[fC];exact sx h3),?_⟩;refine bl ?_;exact rfl;rw[ah h3];refine⟨yY,ee,jQ _,(by rw[fC];exact gA _),none,(by rw[fC];exact vk h3),.bool false,kK,?_⟩;refine bl ?_;refine cl hun ?_;have hlen:(((iq (U.map λa=>a.id)).length:Nat):Int)=(U.length:Int):=by simp[iq]
 refine aA (λh2=>?_) (λh2=>?_);have h2:(((iq (U.map λa=>a.id)).length:Nat):Int)=0:=h2;rw[an (show U.length=0 by omega)];exact rfl;have h2:¬(((iq (U.map λa=>a.id)).length:Nat):Int)=0:=h2;rw[ah (show¬U.length=0 by omega)];exact rfl
theorem ah1 {s:List bO}(h:oE s)(f:bg):((cz s).filter λa=>SD (ep s) f a&&!((ej s f).any λk=>je s k.p a.id.p))=(wz s).filter (YU s f):=by
 unfold wz;rw[List.filter_filter];refine List.filter_congr λa ha=>?_;have h1:decide (a.id∈ep s)=GC s a:=by rw[mj,decide_eq_true_eq,uB,adp h ha];unfold wz;rw[hU];exact⟨λg=>g.2,λg=>⟨ha,g⟩⟩
 have h2:(Pp f a||vH (ep s) f a)=JT (wz s) a f:=by
  have e1:vH (ep s) f a=(decide (a.kind=2/\a.parent=f)&&(sw (wz s) a.file).2):=by unfold vH;by_cases hk:a.kind=2;rw[Zm h ha hk];have e:decide (a.file∈ep s)=decide (a.file∈gL s):=decide_eq_decide.2 uB;by_cases hp:a.parent=f<;>by_cases hm:a.file∈gL s<;>simp[hk,hp,hm,uB];rw[ah (λg=>hk g.1),ah (λg=>hk g.1),jy]
  have e2:Pp f a=decide ((2<=a.kind/\a.kind<=6)/\a.file=f):=by unfold Pp;exact decide_eq_decide.2 ⟨λg=>⟨⟨g.2.1,g.2.2⟩,g.1⟩,λg=>⟨g.2,g.1.1,g.1.2⟩⟩
  unfold JT;rw[e1,e2,Bool.or_comm]
 unfold SD YU;rw[h1,h2];unfold wz;cases GC s a<;>simp
theorem EB {s:List bO}(hl:s.length<=400)(f:bg):(ej s f).length<=2^22*400:=by
 have h1:(oR (oT s) f).length<=(oT s).length:=by have :=Fv f (oT s) [];simpa[oR]using this
 have h2:(oT s).length<=(fL s (bA s)).length:=AO _;have h3:=sq s (bA s);have h4:=pG s;have h5:2^22*(bA s).length<=2^22*400:=jv _ oO;unfold ej;split;omega;exact zL
theorem EC {s:List bO}(h:oE s)(f:bg):∀k,k∈ej s f->k.p∈dx s:=by intro k hk;unfold ej at hk;split at hk;obtain⟨a,ha,-,e⟩:=MR.1 hk;have ha:=tS ha;obtain⟨d,hd,had⟩:=cV.1 ha;have hdi:=(rF h.ok d).1 hd;obtain⟨n,-,-,hid⟩:=Vi h hdi had;rw[<-e,hid];exact hdi;cases hk
theorem SK {s:List bO}(h:oE s)(x:bg):ak C 24 [.sl (cn s),.agg (cI x)] (λr=>r=.val (.bool (jP s x))):=by
 have hl:=h.ok.OK;have hal:=jb hl;have Pw:=EB hl x;have Xt:=Ze h (cz s) oO (ep s) (eU (oF (cz s))) (iK (AZ cA (nI (ep s) (cz s)))) (iV (AZ cA (nI (ep s) (cz s)))) x oO (EC h x);rw[ah1 h x]at Xt;have e1:decide (x∈ep s)=decide (x∈gL s):=decide_eq_decide.2 uB;have e2:((wz s).filter (YU s x)).length=(Hp s x).length:=by unfold Hp;rw[aj]
 rw[e1,e2]at Xt;have hfa:=Vs h x;have hG:jP s x=((pQ (cz s) x).2&&decide ((pQ (cz s) x).1.kind=1)&&(!decide (x∈gL s)&&decide ((Hp s x).length=0))):=by unfold jP;rw[hfa,wZ]
 rw[hG];refine ag Tryz.func24 rfl rfl rfl ?_;refine cl (Sq h x) ?_;generalize pQ (cz s) x=F;obtain⟨a,b⟩:=F;refine cm 13 kK ?_;cases b with
 |false=>exact rfl
 |true=>refine aA (λh1=>?_) (λh1=>?_);have h1:a.kind=1:=h1;refine⟨_,GQ h,?_⟩;refine⟨_,Xt,?_⟩;show cQ.val _=_;rw[an h1];rfl;have h1:¬a.kind=1:=h1;show cQ.val _=_;rw[ah h1];rfl
def cNm (b:bD):List AV:=cI b.id++(cI b.parent++[.str b.name])
def Xb (R:List bg)(N:List (bg×List bD))(a:bD):List AV:=cI a.id++[.int .i64 a.type,.bool (decide (a.id∈R)),.sl ((pU N a.id).map cNm)]
theorem afM {l:List bD}:∀zs,zs∈l.map cNm->zs.length=67:=by intro zs h;obtain⟨x,-,rfl⟩:=aI.1 h;rfl
theorem afN {R:List bg}{N:List (bg×List bD)}{l:List bD}:∀zs,zs∈l.map (Xb R N)->zs.length=36:=by intro zs h;obtain⟨x,-,rfl⟩:=aI.1 h;rfl
def Pr (s:List bO):List (List AV):=(oF (cz s)).map (Xb (ep s) (nI (ep s) (cz s)))
end Qv
