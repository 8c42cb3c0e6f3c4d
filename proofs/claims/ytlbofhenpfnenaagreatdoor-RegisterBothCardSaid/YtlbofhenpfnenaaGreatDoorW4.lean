/- Part 4 of the proof: its lemmas. No condition. -/
import Derived.Test.YtlbofhenpfnenaaGreatDoorW3
import Derived.WideKeyEntry
import Derived.Lib.ConvBytes
set_option maxRecDepth 10000
set_option maxHeartbeats 80000000
set_option linter.all false
namespace Qv
open Go Go.RowKit
theorem PT {α:Type}{d o:Nat}{x:α}(hne:o≠d):∀{l:List (Nat×α)},getM l o=some x->getM (va d l) o=some x:=by
 intro l;induction l with
 |nil=>intro h;cases h
 |cons p l ih=>obtain⟨u,i⟩:=p;intro h;simp only[getM]at h;simp only[va];split at h;rename_i hb;obtain rfl:=aK hb;split;simp_all;simp only[getM,gT];omega;rename_i hb;split;simp_all;simp only[getM,hb];simp_all
def Env.PU (E:Env)(ob:Nat):Env:=⟨E.C.open {E.C.ex with JU:=va ob E.C.ex.JU},E.w0,E.Bh,E.hJ,E.hn,E.mu,E.bF,E.loops,E.fixed,E.own,E.hown⟩
section
variable {E:Env}{G:aV}{S:ah}{a:Act}{w:World}{o:Oper}
theorem bp.PU (h:bp E G S a w)(ob:Nat):bp (E.PU ob) G S a w:=have hm:=h.ext'.mps;⟨h.kept,h.size,⟨⟨hm.at_,hm.loc,hm.inj,hm.iF,hm.yH,hm.yI,hm.apart,λo T z k l b fZ es q1 q2=>hm.room o T z k l b fZ es q1 (pS q2).2⟩,h.ext'.kM,h.ext'.bF,h.ext'.jS,h.ext'.loops,h.ext'.kO,h.ext'.yl,h.ext'.mu,h.ext'.marks,h.ext'.AE⟩,⟨h.iZ.at_,h.iZ.row,h.iZ.cM⟩,h.oh,h.fq,h.tmps,h.aJ,h.iu,h.fk,h.ck,h.fI,h.en⟩
theorem bp.agF {ob:Nat}(h:bp (E.PU ob) G S a w)(hr:∀(T:TypeId)(z:Nat)(k:Option AV)(l:List (AV×FV))(b fZ:Nat)(es:List MapEntry),getM S.maps ob=some l->getM E.C.ex.JU ob=some (T,z,k)->G.mp ob=some b->w.heap[b]?=some (.map es.toArray fZ)->∀(i:Nat)(e:MapEntry)(p:AV×FV),es[i]?=some e->l[i]?=some p->k≠some p.1->Ed G T z ob e):bp E G S a w:=have hm:=h.ext'.mps;⟨h.kept,h.size,⟨⟨hm.at_,hm.loc,hm.inj,hm.iF,hm.yH,hm.yI,hm.apart,λo T z k l b fZ es q1 q2=>by by_cases e:o=ob;grind;exact hm.room o T z k l b fZ es q1 (PT e q2)⟩,h.ext'.kM,h.ext'.bF,h.ext'.jS,h.ext'.loops,h.ext'.kO,h.ext'.yl,h.ext'.mu,h.ext'.marks,h.ext'.AE⟩,⟨h.iZ.at_,h.iZ.row,h.iZ.cM⟩,h.oh,h.fq,h.tmps,h.aJ,h.iu,h.fk,h.ck,h.fI,h.en⟩
theorem bp.PV (hs:bp E G S a w)(q:Nat×Nat)(hq:getM E.C.ex.JU q.1=none):bp E {G with tail:=λt=>if t=.inr q then none else G.tail t} S a w:=by have up:∀v x,aQ G w v x->aQ {G with tail:=λt=>if t=.inr q then none else G.tail t} w v x:=λv x h=>h.keep (λ_ _ h=>h) (λ_ _ _ _ h=>h) (.refl _ _) (λ_ _ h=>h) (λt r h=>by simp_all);have hm:=hs.ext'.mps;refine⟨hs.kept,hs.size,⟨⟨λo l ho=>?_,hm.loc,hm.inj,hm.iF,hm.yH,hm.yI,hm.apart,λo T z k l b fZ es q1 q2 q3 q4 i e p q5 q6 q7=>?_⟩,hs.ext'.kM,λi vals fr h1 h2=>?_,hs.ext'.jS,hs.ext'.loops,hs.ext'.kO,hs.ext'.yl,hs.ext'.mu,hs.ext'.marks,hs.ext'.AE⟩,hs.iZ.keep rfl rfl (λo bs q=>⟨q,rfl,rfl⟩) (λ_ _ _ q=>q) (λ_ _ e=>e) (ay _) (λ_ _ _ _ _ _=>rfl) (λ_ _ _=>rfl) (λ_ _ _ _ e=>e) (λ_ _ _ _ e=>e) (λo r t z _ e=>?_),hs.oh,hs.fq,λi hi=>up _ _ (hs.tmps i hi),λo cells ho=>?_,hs.iu,hs.fk,λo t b r h h'=>?_,λt b s e T h=>?_,λt t' b r r' h h'=>?_⟩;obtain⟨b,fZ,es,h1,h2,h3,h4,h5⟩:=hm.at_ o l ho;grind;obtain⟨ad,n,c,g1,g2⟩:=hm.room o T z k l b fZ es q1 q2 q3 q4 i e p q5 q6 q7;refine⟨ad,n,c,g1,g2.imp id λ⟨b2,off,g3,g4⟩=>⟨b2,off,g3,?_⟩⟩;grind;obtain⟨h3,h4⟩:=hs.ext'.bF i vals fr h1 h2;simp_all;grind;obtain⟨b,h1,h2⟩:=hs.aJ o cells ho;grind;simp only at h';split at h';grind;exact hs.ck o t b r h h';simp only at h;split at h;grind;exact hs.fI t b s e T h;simp only at h h';split at h;grind;split at h';grind;exact hs.en t t' b r r' h h'
theorem bp.ZQ (hs:bp E G S a w){b s0:Nat}{news:List Value}(hlt:b<w.heap.size)(hw0:E.w0.heap.size<=b)(hty:∃cs T fr,w.heap[b]?=some (.cells cs T fr))(hfree:∀i,s0<=i->i<s0+news.length->¬G.aZ b i)(gb:∀o,G.loc o≠some b)(hrow:∀o,G.row o≠some b)(JL:∀t r,G.tail t≠some (b,r)):bp E {G with aZ:=λb' o=>G.aZ b' o\/(b'=b/\s0<=o/\o<s0+news.length)} S a (w.setCells b s0 news)/\(∀b' i c,G.aZ b' i->w.cell? ⟨b',i,none⟩=some c->(w.setCells b s0 news).cell? ⟨b',i,none⟩=some c):=by
 obtain⟨tcs,tT,tfr,tty⟩:=hty;have hcell:∀b' i c,G.aZ b' i->w.cell? ⟨b',i,none⟩=some c->(w.setCells b s0 news).cell? ⟨b',i,none⟩=some c:=λb' i c hi hc=>by rw[World.cell?_setCells_out b news s0 w ⟨b',i,none⟩ (λe _=>by grind)];omega
 have hout:∀b2 i,b2≠b->(w.setCells b s0 news).cell? ⟨b2,i,none⟩=w.cell? ⟨b2,i,none⟩:=λb2 i hne=>World.cell?_setCells_out b _ s0 w ⟨b2,i,none⟩ (λe=>absurd e hne);have hfz:∀x,(w.setCells b s0 news).frozen? x=w.frozen? x:=λx=>World.frozen?_setCells b _ s0 w x;have hsz:=jm b news s0 w;have up:∀v x,aQ G w v x->aQ {G with aZ:=λb' o=>G.aZ b' o\/(b'=b/\s0<=o/\o<s0+news.length)} (w.setCells b s0 news) v x:=λv x hv=>hv.keep (λ_ _ h=>.inl h) hcell ((ga.setCells b _ _ _).qG _) (λ_ _ h=>h) (λ_ _ h=>h);have JK:lJ (λx=>x) G {G with aZ:=λb' o=>G.aZ b' o\/(b'=b/\s0<=o/\o<s0+news.length)} S S w:=⟨λ_=>rfl,λo l' h=>⟨l',h,(MT l').symm,λb hb=>hb⟩,λq x h=>⟨h,λr hr=>hr⟩,λo b h=>h,λo b h=>h,λb' i es n hb _ h=>h.elim id λh=>by simp_all,λ_ h=>.inl h,λ_ _ h=>.inl h,λ_ _ h=>h⟩;refine⟨⟨hs.kept.setCells (.inl hw0) _ _,hs.size,hs.ext'.keep rfl rfl rfl up (.setCells _ _ _ _) (JK:=JK),?_,?_,?_,λi hi=>up _ _ (hs.tmps i hi),λo cells ho=>?_,λo b' ho=>?_,hs.fk,hs.ck,λt b' s e T' h=>?_,hs.en⟩,hcell⟩;refine hs.iZ.keep rfl rfl (λo bs q=>⟨q,rfl,rfl⟩) (λ_ _ _ q=>q) (λ_ _ e=>e) oO (λo bs b2 q q2 e=>gO _ _ _ _ _ (λe2=>gb o (e2▸e))) (λo r e=>gO _ _ _ _ _ (λe2=>hrow o (e2▸e))) (λo r i e hi=>?_) (λ_ _ _ _ e=>e) (λ_ _ t q _ e=>⟨t,q,e⟩);grind;rintro b' o (h|⟨rfl,-,-⟩);exact hs.oh b' o h;omega;rintro b' o (h|⟨rfl,-,-⟩);rw[hsz];exact hs.fq b' o h;omega;obtain⟨b',h1,h2⟩:=hs.aJ o cells ho;grind;obtain⟨k1,k2,k3⟩:=hs.iu o b' ho;grind;obtain⟨k1,k2,kt,k3⟩:=hs.fI t b' s e T' h;have hb:b'≠b:=λe'=>JL t _ (e'▸h);refine⟨oO,k2,jo _ _ _ _ _ _ kt,λi hi hi'=>?_⟩;simp_all
theorem PW (hs:bp E G S a w){q:Nat×Nat}(hq:getM E.C.ex.JU q.1=none){xs ys:List (List AV)}{ad:Option Addr}{c:Nat}{yv:Value}{t u elem ty:TypeId}{dd:TypeDesc}{i:jL}{news:List Value}(ht:E.C.P.underlying t=some (.slice elem))(hu:E.C.P.underlying u=some dd)(hd:∀k,dd≠.int k)(hi:fL E.C.P elem i)(hx:cZ G.aZ w (.slice ad xs.length c) (.sl xs))(Gj:∀zs,zs∈xs->zs.length=i.size)(yT:∀zs,zs∈ys->zs.length=i.size)(hle:xs.length<=c)(hroom:(xs.length=0/\c=0)\/∃b off,(ad=some ⟨b,off,none⟩/\off=0)/\G.tail (.inr q)=some (b,off+xs.length*i.size,off+c*i.size,elem))(hn:Flat G.aZ w i.size ys news)(hl:(Builtin.lenOf yv).run E.C.P w=.ok ys.length w)(hf:∀w',(∀b o,w'.cell? ⟨b,o,none⟩=w.cell? ⟨b,o,none⟩)->(Builtin.firstCells i.size ys.length yv).run E.C.P w'=.ok news.toArray w')(hb:(xs.length+ys.length)*i.bytes<=2^47)(hb0:i.bytes≠0):∃ad' c' w' G',(Builtin.append_ #[t,u] ty #[.slice ad xs.length c,yv]).run E.C.P w=.ok (.slice ad' (xs++ys).length c') w'/\bp E G' S a w'/\cZ G'.aZ w' (.slice ad' (xs++ys).length c') (.sl (xs++ys))/\(((xs++ys).length=0/\c'=0)\/∃b off,(ad'=some ⟨b,off,none⟩/\off=0)/\G'.tail (.inr q)=some (b,off+(xs++ys).length*i.size,off+c'*i.size,elem))/\(∀q' r,q'≠q->G.tail (.inr q')=some r->G'.tail (.inr q')=some r)/\G'.mp=G.mp/\ga w w':=by
 by_cases h0:ys=[];subst h0;have hnews:news=[]:=bJ.1 (by rw[hn.len];simp);subst hnews;have hrun:=mJ (P:=E.C.P) (w:=w) (ty:=ty) (base:=ad) ht hu hd hi hl (hf w λ_ _=>rfl) hle;refine⟨ad,c,w,G,by simp_all,hs,by simp_all,by simp_all,λ_ _ _ h=>h,rfl,.refl _⟩;have hm:0<ys.length:=je.2 h0;have hlen:(xs++ys).length=xs.length+ys.length:=au;by_cases hc:xs.length+ys.length<=c;rcases hroom with hroom|⟨b,off,⟨rfl,hoff⟩,JL⟩;omega;obtain⟨t1,t2,tt,t3⟩:=hs.fI _ _ _ _ _ JL;have hqe:off+xs.length*i.size+news.length<=off+c*i.size:=by have :=ec i.size hc;rw[bD]at this;rw[hn.len];omega
 have hrun:=nM (P:=E.C.P) (w:=w) (ty:=ty) (b:=b) (off:=off) ht hu hd hi hl (hf w λ_ _=>rfl) hc (λj hj=>by obtain⟨⟨u,hu⟩,-,-⟩:=t3 (off+xs.length*i.size+j) oO oO;simp_all) (λj hj=>(t3 (off+xs.length*i.size+j) oO oO).2.1) hn.one;have afM:∀o,G.loc o≠some b:=λo h=>by have :=(hs.ck o _ b _ h JL).1;simp_all
 have Vm:∀o,G.row o≠some b:=λo h=>(hs.iZ.row o b h).2.2.2.2.1 _ _ JL;have hs1:=hs.PV q hq;have air:∀t r,({G with tail:=λt=>if t=.inr q then none else G.tail t}:aV).tail t≠some (b,r):=λt r h=>by simp only at h;split at h;grind;rename_i hne;exact hne (hs.en t _ b _ _ h JL)
 obtain⟨f1,f3⟩:=hs1.ZQ (news:=news) (s0:=off+xs.length*i.size) t1 t2 (let⟨cs,fr,h,_⟩:=tt;⟨cs,_,fr,h⟩) (λj h1 h2=>(t3 j h1 oO).2.2) afM Vm air;have hg:=f1.Ab (t:=.inr q) (B:=b) (s:=off+xs.length*i.size+news.length) (e:=off+c*i.size) (T:=elem) (by simp) (by rw[jm];omega) t2 (jo _ _ _ _ _ _ tt) afM air Vm (λj hj hj'=>by obtain⟨⟨u,hu⟩,g2,g3⟩:=t3 j oO oO;refine⟨⟨u,?_⟩,by rw[World.frozen?_setCells];omega,?_⟩;rw[World.cell?_setCells_out b news _ w ⟨b,j,none⟩ (λ_ _=>by simp_all)];omega;simp_all);refine⟨_,c,_,_,by simp_all,hg,?_,.inr ⟨b,off,⟨rfl,hoff⟩,?_⟩,λq' r hne h=>?_,rfl,.setCells _ _ _ _⟩;refine yS oO (λzs hz=>(aW.1 hz).elim (Gj zs) (yT zs)) λp zs j z hp hj=>?_;have hjl:j<i.size:=by have h1:=(aC.1 hj).1;have h2:zs∈xs++ys:=bA hp;rw[(aW.1 h2).elim (Gj zs) (yT zs)]at h1;exact h1
 rw[wJ]at hp;by_cases YX:p<xs.length;rw[af YX]at hp;obtain⟨_,_,hv,-,hne⟩:=hx.kS;obtain⟨b2,off2,bN,cell,rfl,g1,g2⟩:=hne (λe=>by simp_all);injection hv with e1 e2 e3;have e1:=an e1;injection e1 with q1 q2;subst q1;subst q2;obtain rfl:bN=i.size:=(g1 p _ hp).symm.trans (Gj _ (bA hp));obtain⟨k1,k2,k3,k4⟩:=g2 _ _ _ _ hp hj;rw[gj]at k2 k3;exact⟨_,k1,f3 _ _ _ k3 k2,.inl k3,k4.keep (λ_ _ h=>.inl h) f3 ((ga.setCells b _ _ _).qG _)⟩;rw[aa YX]at hp;obtain⟨u,k1,k2,k3⟩:=hn.at_ _ _ _ _ hp hj;have YY:(p-xs.length)*i.size+j<news.length:=(aC.1 k1).1;have ZI:off+(p*i.size+j)=off+xs.length*i.size+((p-xs.length)*i.size+j):=by
  have :p=xs.length+(p-xs.length):=oO
  have h2:p*i.size=xs.length*i.size+(p-xs.length)*i.size:=by rw[<-bD,<-this]
  omega
 have hin:=World.cell?_setCells_in b news (off+xs.length*i.size) w (λq Nc=>by obtain⟨⟨u,hu⟩,-,-⟩:=t3 (off+xs.length*i.size+q) oO oO;simp_all) _ YY;refine⟨u,k3,?_,.inr ⟨rfl,oO,oO⟩,k2.keep (λ_ _ h=>.inl h) f3 ((ga.setCells b _ _ _).qG _)⟩;simp_all;simp only[if_true];rw[hn.len,hlen,bD,gj];simp_all;obtain⟨olds,KW,-,ZJ⟩:=wG (P:=E.C.P) hx Gj;obtain⟨rest,z,hz,qB,hrun⟩:=iM (P:=E.C.P) (w:=w) (ty:=ty) (base:=ad) (news:=news) (olds:=olds) ht hu hd hi hl hf ZJ hc hb hb0;have hcap:xs.length+ys.length<=grownCap w (xs.length+ys.length) c elem:=grownCap_ge w _ _ _;generalize hcg:grownCap w (xs.length+ys.length) c elem=cap at*;generalize hW:w.drew.alloc (.cells (olds.toArray++news.toArray++rest) elem)=W at*;have Gk:Below w.drew.heap.size w.drew W:=by rw[<-hW];exact(Below.refl _ _).alloc (ay _) _
 have hWs:W.heap.size=w.heap.size+1:=by rw[<-hW];simp
 have hrl:rest.size=(cap-(xs.length+ys.length))*i.size:=by rw[qB,size_zeroCells,hz]
 have hcell:∀q,W.cell? ⟨w.heap.size,q,none⟩=(olds.toArray++news.toArray++rest)[q]?:=λq=>by rw[<-hW];exact World.cell?_alloc_new w.drew _ elem q
 have hfz:∀q,W.frozen? ⟨w.heap.size,q,none⟩=false:=λq=>by rw[<-hW];exact World.frozen?_alloc_new w.drew _ elem q
 have hold:∀b q,b<w.heap.size->W.cell? ⟨b,q,none⟩=w.cell? ⟨b,q,none⟩:=λb q hlt=>by rw[<-hW];exact World.cell?_alloc_lt w.drew _ ⟨b,q,none⟩ hlt
 have h1:=(hs.drew.MV (w':=W) Gk (λb q=>b=w.heap.size/\q<(xs.length+ys.length)*i.size)).PV q hq;have hg:=h1.Ab (t:=.inr q) (B:=w.heap.size) (s:=(xs.length+ys.length)*i.size) (e:=cap*i.size) (T:=elem) (by simp) oO hs.kept.size (by rw[<-hW];exact⟨_,_,World.alloc_heap_new w.drew _,rfl⟩) (λo h=>by have :=(hs.iu o _ h).1;omega) (λt' r h=>by simp only at h;split at h;grind;have :=(hs.fI t' _ r.1 r.2.1 r.2.2 h).1;omega) (λo h=>by have :=(hs.iZ.row o _ h).2.1;omega) (λq hq Nc=>by
  refine⟨?_,hfz q,?_⟩;rw[hcell q];have :q<(olds.toArray++news.toArray++rest).size:=by simp only[Array.size_append,List.size_toArray,KW.len,hn.len,hrl,<-bD];rw[show xs.length+ys.length+(cap-(xs.length+ys.length))=cap from oO];exact Nc
  simp_all;rintro(h|⟨-,-,-,h⟩);have :=hs.fq _ _ h;omega;omega);have Nj:ga w W:=λk o hk ho=>by rw[Gk.block k (bC.1 hk).1];exact hk
 refine⟨_,cap,W,_,by simp_all,hg,?_,.inr ⟨w.heap.size,0,⟨rfl,rfl⟩,by simp_all⟩,λq' r hne h=>?_,rfl,Nj⟩;have hkeep:∀{u:Value}{z:AV},cZ G.aZ w u z->cZ (λb o=>G.aZ b o\/(w.drew.heap.size<=b/\b<W.heap.size/\b=w.heap.size/\o<(xs.length+ys.length)*i.size)) W u z:=λh=>h.keep (λ_ _ h=>.inl h) (λb o c hi hc=>by rw[hold b o (hs.fq b o hi)];omega) (λb es n hi hb=>(Gk.block b (hs.fq b 0 hi)).trans hb);refine yS oO (λzs hz=>(aW.1 hz).elim (Gj zs) (yT zs)) λp zs j z hp hj=>?_;have hjl:j<i.size:=by have h1:=(aC.1 hj).1;have h2:zs∈xs++ys:=bA hp;rw[(aW.1 h2).elim (Gj zs) (yT zs)]at h1;exact h1
 have YX:p<xs.length+ys.length:=by rw[<-hlen];exact(aC.1 hp).1
 have agB:p*i.size+j<(xs.length+ys.length)*i.size:=by have :(p+1)*i.size<=(xs.length+ys.length)*i.size:=ec _ YX;rw[bD]at this;omega
 rw[cz];have Cf:(λb o=>G.aZ b o\/(w.drew.heap.size<=b/\b<W.heap.size/\b=w.heap.size/\o<(xs.length+ys.length)*i.size)) w.heap.size (p*i.size+j):=.inr ⟨ay _,oO,rfl,agB⟩;rw[wJ]at hp;by_cases ZK:p<xs.length;rw[af ZK]at hp;obtain⟨u,k1,k2,k3⟩:=KW.at_ _ _ _ _ hp hj;have YY:=(aC.1 k1).1;refine⟨u,k3,?_,Cf,hkeep k2⟩;grind;rw[aa ZK]at hp;obtain⟨u,k1,k2,k3⟩:=hn.at_ _ _ _ _ hp hj;have YY:=(aC.1 k1).1;have ZI:p*i.size+j=olds.length+((p-xs.length)*i.size+j):=by
  have :p=xs.length+(p-xs.length):=oO
  have h2:p*i.size=xs.length*i.size+(p-xs.length)*i.size:=by rw[<-bD,<-this]
  rw[KW.len];omega
 refine⟨u,k3,?_,Cf,hkeep k2⟩;rw[hcell,sF (by simp_all),Nd (by simp_all),ZI];simp[k1];simp_all
theorem PX {b:Nat}{o:Obj}(h:w.heap[b]?=some o):w.putObj b o=w:=by
 obtain⟨hl,he⟩:=bC.1 h;unfold World.putObj;have :w.heap.setIfInBounds b o=w.heap:=by apply Array.ext_getElem?;intro i;rw[Nk];split;simp_all;rfl
 rw[this]
theorem WS {P:Program}{t kT eT:TypeId}(hu:P.underlying t=some (.map kT eT)){L:List gI}(hL:eM P 40 kT=some L){k:AV}(hk:gz (gJ P kT) L k=true){b fZ:Nat}{es:List MapEntry}(hb:w.heap[b]?=some (.map es.toArray fZ)){ks:List AV}(hks:sy (gJ P kT) L es ks){z:Value}(hz:∀w,(zeroValue eT).run P w=.ok z w):match iw k ks with|some j=>∃e0,es[j]?=some e0/\e0.key=tv (gJ P kT) k.cells/\(Instr.mapEntry t (.map (some b)) (tv (gJ P kT) k.cells)).run P w=.ok (.tuple #[e0.val,.int .i64 (e0.born:Int)]) w|none=>(Instr.mapEntry t (.map (some b)) (tv (gJ P kT) k.cells)).run P w=.ok (.tuple #[z,.int .i64 (fZ:Int)]) (w.putObj b (.map (es++[({key:=tv (gJ P kT) k.cells,val:=z,born:=fZ}:MapEntry)]).toArray (fZ+1))):=by
 have Ej:=(sx (P:=P) (em:=false) 40).1 kT L 10000 w k.cells dD hL (lK hk);have hfind:=wz (w:=w) dD hL hk hks;have hg:(Go.getObj b).run P w=.ok (.map es.toArray fZ) w:=by simp[Go.getObj,Sem.run,hb]
 have Bj:∀o',(Go.setObj b o').run P w=.ok () (w.putObj b o'):=λo'=>by simp[Go.setObj,Sem.run,hb,World.putObj]
 cases gb:iw k ks with
 |none=>
  rw[gb]at hfind;have he:(es++[({key:=tv (gJ P kT) k.cells,val:=z,born:=fZ}:MapEntry)]).toArray=es.toArray.push {key:=tv (gJ P kT) k.cells,val:=z,born:=fZ}:=by simp
  simp only;rw[he];simp[Instr.mapEntry,run_underlying hu,hg,Ej,hfind,found,hz,Bj,goInt]
 |some j=>
  rw[gb]at hfind;obtain⟨hj,hkj⟩:=uj gb;have SQ:j<es.length:=by have :=hks.1;omega
  obtain⟨k1,k2⟩:=hks.2 j _ _ (aq SQ) (aq hj);rw[hkj]at k1;have hmod:(es.modify j λe=>{e with key:=tv (gJ P kT) k.cells})=es:=by apply fP;intro i;rw[List.getElem?_modify];split;rename_i e;subst e;simp only[aq SQ,eC,bM];rw[<-k1];rfl;simp
  refine⟨es[j],aq SQ,k1,?_⟩;have hps:=PX hb;simp[Instr.mapEntry,run_underlying hu,hg,Ej,hfind,found,SQ,k1,Ck hk,Bj,goInt,hmod,hps]
theorem run_store {P:Program}{t:TypeId}{b fZ:Nat}{es:List MapEntry}(hb:w.heap[b]?=some (.map es.toArray fZ))(El:(es.map (·.born)).Nodup){j:Nat}{e0:MapEntry}(hj:es[j]?=some e0)(v:Value):(Instr.entryStore t (.map (some b)) (.int .i64 (e0.born:Int)) v).run P w=.ok () (w.putObj b (.map (es.set j {e0 with val:=v}).toArray fZ)):=by
 have hg:(Go.getObj b).run P w=.ok (.map es.toArray fZ) w:=by simp[Go.getObj,Sem.run,hb]
 have Bj:∀o',(Go.setObj b o').run P w=.ok () (w.putObj b o'):=λo'=>by simp[Go.setObj,Sem.run,hb,World.putObj]
 have hidx:es.findIdx? (λe=>((e.born:Nat):Int)==((e0.born:Nat):Int))=some j:=WideElems.findIdx_born (l:=es) El hj;have hmod:(es.modify j λe=>{e with val:=v})=es.set j {e0 with val:=v}:=by apply fP;intro i;rw[List.getElem?_modify,List.getElem?_set];split;grind;simp
 simp[Instr.entryStore,hg,asInt,asIntOf,hidx,Bj,hmod]
end
section
variable {E:Env}{G:aV}{S:ah}{a:Act}{w:World}{o:Oper}
theorem jt (G:aV)(w:World):aQ G w undef (.p (.eY [])):=.p _ _ (cZ.eY (aZ:=G.aZ) (w:=w) [] [] rfl (λi c x h _=>by cases i<;>cases h))
theorem vp (hs:bp E G S a w){dst:Option Nat}{r:dh}{v:Value}{w':World}(hb:Below w.heap.size w w')(hok:ng G.aZ w.heap.size w' v r)(WT:afE S dst r:=by trivial):∃G',bp E G' (S.got dst r) (a.put dst v) w':=by
 cases r with
 |own rest T bN xss=>
  cases dst with
  |none=>exact⟨_,hs.ext hb⟩
  |some d0=>
   have hdn:=WT d0 rfl;simp only[ah.got];generalize hd:S.off+d0=d at hdn;obtain⟨b,c,cs,fr,us,rfl,h1,h2,h3,h4,h5,h6,h7,h8,h9,h10⟩:=hok;have hg0:=(hs.MV hb λb' _=>b'≠b).kill d;have hkeep:∀{u:Value}{y:AV},cZ (Ze G.aZ w.heap.size b) w' u y->cZ (λb' o=>G.aZ b' o\/(w.heap.size<=b'/\b'<w'.heap.size/\b'≠b)) w' u y:=λh=>h.yy (λb' o c hi hc=>⟨hi.imp id λh=>⟨h.1,World.block_lt_of_cell? w' _ hc,h.2⟩,hc⟩) λb' es k hi hb'=>⟨hi.imp id λh=>⟨h.1,(bC.1 hb').1,h.2⟩,hb'⟩;have hfl:xss.flatten.length=xss.length*bN:=gF λzs hz=>(h5 zs hz).1;have hg1:=hg0.ZL (d:=d) (b:=b) (cells:=aF xss.flatten) hdn (by simp[aV.free]) (iN _ _) (λo h=>by simp only[aV.free]at h;split at h;cases h;have :=(hs.iu o _ h).1;omega) (λt' r h=>by simp only[aV.free]at h;split at h;cases h;have :=(hs.fI t' _ r.1 r.2.1 r.2.2 h).1;omega) (λo h=>by simp only[aV.free]at h;split at h;cases h;have :=(hs.iZ.row o _ h).2.1;omega) (λes k e=>by rw[h6]at e;cases e) h2 (bH hs.kept.size h1) (λi=>⟨λh=>by rcases h with h|⟨-,-,h⟩;have :=hs.fq _ _ h;omega;exact h rfl,h7 i⟩) (λi x hx=>by
    rw[tA]at hx;cases hq:xss.flatten[i]?with
    |none=>rw[hq]at hx;cases hx
    |some y=>rw[hq]at hx;obtain rfl:=an hx;obtain⟨u,q1,q2⟩:=h9 i y hq;exact⟨u,q1,.p _ _ (hkeep q2)⟩)
   have hg2:=hg1.vn (t:=d) (B:=b) (s:=xss.length*bN) (e:=c*bN) (T:=T) (sZ _ d) h2 (bH hs.kept.size h1) ⟨cs,fr,h6,trivial⟩ (λo h=>by simp only[aV.free]at h;split at h;rename_i e;subst e;refine⟨rfl,iN _ _,λcells hc=>?_⟩;simp only[Qv.getObj,gT]at hc;obtain rfl:=an hc;rw[iP,hfl];have :=(hs.iu o _ h).1;omega) (λt' r h=>by simp only[aV.free]at h;split at h;cases h;have :=(hs.fI t' _ r.1 r.2.1 r.2.2 h).1;omega) (λo h=>by simp only[aV.free]at h;split at h;cases h;have :=(hs.iZ.row o _ h).2.1;omega) (λi hi hi'=>⟨h8 i hi',h7 i,λh=>by rcases h with h|⟨-,-,h⟩;have :=hs.fq _ _ h;omega;exact h rfl⟩);refine⟨_,hg2.put (some d0) (x:=agu rest (.fc d T bN)) ?_⟩;have Sv:aQ {(aV.free {G with aZ:=λb' o=>G.aZ b' o\/(w.heap.size<=b'/\b'<w'.heap.size/\b'≠b)} d)with loc:=λo=>if o=d then some b else(aV.free {G with aZ:=λb' o=>G.aZ b' o\/(w.heap.size<=b'/\b'<w'.heap.size/\b'≠b)} d).loc o,tail:=λt'=>if t'=d then some (b,xss.length*bN,c*bN,T)else(aV.free {G with aZ:=λb' o=>G.aZ b' o\/(w.heap.size<=b'/\b'<w'.heap.size/\b'≠b)} d).tail t'} w' (.slice (some ⟨b,0,none⟩) xss.length c) (.fc d T bN):=.fc d T bN xss.length c b (by simp) (by simp) h4 h3;cases rest with
   |none=>exact Sv
   |some r=>
    obtain⟨g1,g2⟩:=h10 r rfl;refine .eY (_::us) (_::aF r) (by simp[iP,g1]) λi u x q1 q2=>?_;cases i with
    |zero=>simp at q1 q2;subst q1;subst q2;exact Sv
    |succ i=>
     simp only[lY]at q1 q2;rw[tA]at q2;cases hq:r[i]?with
     |none=>rw[hq]at q2;cases q2
     |some y=>rw[hq]at q2;obtain rfl:=an q2;exact .p _ _ (hkeep (g2 i u y q1 hq))
 |val x=>exact⟨_,(hs.ext hb).put dst (ng.SR (r:=.val x) hok)⟩
 |vf x=>exact⟨_,(hs.ext hb).put dst (ng.SR (r:=.vf x) hok)⟩
 |fresh T bN xs=>
  cases dst with
  |none=>exact⟨_,hs.ext hb⟩
  |some d0=>simp only[ah.got];generalize hd:S.off+d0=d;obtain⟨ad,c,rfl,⟨rfl,rfl,h⟩|⟨b,off,cs,fr,rfl,h1,h2,h3,hty,h4,h5⟩⟩:=hok;have hr:cZ (λb o=>G.aZ b o\/(w.heap.size<=b/\b<w'.heap.size)) w' (.slice ad ([]:List (List AV)).length 0) (.sl []):=h.yy (λb o c hi hc=>⟨hi.imp id λh=>⟨h,World.block_lt_of_cell? w' _ hc⟩,hc⟩) λb es k hi hb=>⟨hi.imp id λh=>⟨h,(bC.1 hb).1⟩,hb⟩;exact⟨_,((hs.ext hb).kill d).put (some d0) (x:=.eU d T bN []) (.eU d T bN [] ad 0 hr (.inl ⟨rfl,rfl⟩))⟩;have hg:=((hs.MV hb λb' o=>¬(b'=b/\off+xs.length*bN<=o/\o<off+c*bN)).kill d).Ab (t:=d) (B:=b) (s:=off+xs.length*bN) (e:=off+c*bN) (T:=T) (sZ _ d) h2 (bH hs.kept.size h1) ⟨cs,fr,hty,trivial⟩ (λo h=>by simp only[aV.free]at h;split at h;cases h;have :=(hs.iu o _ h).1;omega) (λt' r h=>by simp only[aV.free]at h;split at h;cases h;have :=(hs.fI t' _ r.1 r.2.1 r.2.2 h).1;omega) (λo h=>by simp only[aV.free]at h;split at h;cases h;have :=(hs.iZ.row o _ h).2.1;omega) (λi hi hi'=>by obtain⟨g1,g2⟩:=h4 i hi hi';refine⟨g1,g2,?_⟩;rintro(h|⟨-,-,h⟩);have :=hs.fq _ _ h;omega;exact h ⟨rfl,hi,hi'⟩);refine⟨_,hg.put (some d0) (x:=.eU d T bN xs) (.eU d T bN xs _ c ?_ (.inr ⟨b,off,rfl,h3,by simp⟩))⟩;exact h5.yy (λb o c hi hc=>⟨hi.imp id λh=>⟨h.1,World.block_lt_of_cell? w' _ hc,h.2⟩,hc⟩) λb es k hi hb=>⟨hi.imp id λh=>⟨h.1,(bC.1 hb).1,h.2⟩,hb⟩
theorem wp_evAppend (hs:bp E G S a w){d:Nat}{K:ah->Prop}{x y:Operand}{t u:TypeId}(ho:o.op=.call ⟨.builtin .append,#[x,y],#[t,u]⟩)(hd:o.dst=some d)(h:th E.C t u d S (S.val x) (S.val y) K){next:Act->World->Prop}{Q:Exit->Act->World->Prop}(hn:∀S' a' w',K S'->pJ E S' a' w'->next a' w'):CB E o a w next Q:=by
 have hx:=aQ.val hs x;have hy:=aQ.val hs y;generalize S.val x=vx at h hx;generalize S.val y=vy at h hy;unfold th at h;split at h
 ·rename_i e _ ui ht hui;have Ke:=(E.C.ok ht).slice;obtain⟨dd,ZN,hsh⟩:=(E.C.ok hui).yL;split at h;exact h.elim;rename_i yU;have hdk:∀k,dd≠.int k:=λk e=>by rw[<-hsh,e]at yU;simp[shapeOf,Shape.Fj]at yU
  split at h;exact h.elim;rename_i j hj;have hok:=E.C.ok hj;split at h;exact h.elim;rename_i ys hys;have fin:∀{k:Nat}{xs:List (List AV)}{ad:Option Addr}{c:Nat},a.eval x=.slice ad xs.length c->cZ G.aZ w (.slice ad xs.length c) (.sl xs)->(∀zs,zs∈xs->zs.length=j.size)->((xs=[]/\c=0)\/(ys≠[]/\c=xs.length)\/∃b off,ad=some ⟨b,off,none⟩/\G.tail k=some (b,off+xs.length*j.size,off+c*j.size,e))->(∀zs,zs∈ys->zs.length=j.size)->(xs.length+ys.length)*j.bytes<=2^47->j.bytes≠0->K ((S.kill k).put (some d) (.eU k e j.size (xs++ys)))->CB E o a w next Q:=λ{k xs ad c} ev hr Gj hroom yT hb hb0 hK=>by
   obtain⟨news,n1,n2,n3⟩:=hy.items (P:=E.C.P) (e:=j.size) hys yT;obtain⟨_,_,hv,hle,-⟩:=hr.kS;have agG:xs.length<=c:=by injection hv with e1 e2 e3;omega
   obtain⟨v',w',G',r1,r2,r3⟩:=PM (ty:=o.type) hs Ke ZN hdk hok hr Gj yT agG hroom n1 n2 n3 hb hb0;refine wp_value (v:=v') (w':=w') ?_ (hn _ _ _ hK ⟨G',?_⟩);simp[execOp,ho,resolve,invoke,builtin,ev,r1];rw[hd];exact r2.put (some d) r3
  split at h;rename_i k T bN xs;split at h;rename_i he hb0 hT;obtain rfl:=aK he;obtain rfl:=aK hT;obtain⟨Gj,yT,hb,zs,rfl,hK⟩:=h;generalize KX:a.eval x=v at hx;cases hx with
  |eU _ _ _ _ ad c hr hroom=>exact fin KX hr Gj (hroom.imp id λ⟨b,off,e1,_,e2⟩=>.inr ⟨b,off,e1,e2⟩) yT hb (bt hb0) hK
  exact h.elim;rename_i k T bN;split at h;rename_i he hT hb0;obtain rfl:=aK he;obtain rfl:=aK hT;have hb0:=bt hb0;split at h;exact h.elim;rename_i xs hxs;obtain⟨hkn,hxs⟩:=iU hxs;obtain⟨n,WR,yT,hbd,zs,rfl,hK⟩:=h;obtain⟨news,n1,n2,n3⟩:=hy.items (P:=E.C.P) (e:=j.size) hys yT;generalize PO:a.eval y=vy at hy n2 n3;generalize Nh:a.eval x=vv at hx;cases hx with
  |fc _ _ _ n' c b p1 p2 p3 p4=>
   have nl:news.length=ys.length*j.size:=n1.len;have ZO:(aF ys.flatten).length=ys.length*j.size:=by rw[iP];exact gF yT
   have nr:∀(i:Nat)(z:FV),(aF ys.flatten)[i]?=some z->∃u,news[i]?=some u/\aQ G w u z:=λi z hz=>by
    rw[tA]at hz;have hi:i<ys.length*j.size:=by
     rw[<-gF yT];cases hq:ys.flatten[i]?with
     |none=>rw[hq]at hz;cases hz
     |some q=>exact(aC.1 hq).1
    have hq:i/j.size<ys.length:=CE (by rw[sE];exact hi);have hr:i%j.size<(ys[i/j.size]).length:=by rw[yT _ (aL hq)];exact jX _ p4
    have hii:i/j.size*j.size+i%j.size=i:=Nat.div_add_mod' i j.size;have h1:=aq hq;have h2:=aq hr;have h3:=lP yT h1 h2;rw[hii]at h3;rw[h3]at hz;obtain rfl:=an hz;obtain⟨u,e1,e2,-⟩:=n1.at_ _ _ _ _ h1 h2;rw[hii]at e1;exact⟨u,e1,.p _ _ e2⟩
   have hxl:=(hs.ck _ _ _ _ p1 p2).2.2 xs hxs;simp only at hxl;obtain rfl:n=n':=gm p4 (WR.symm.trans hxl);obtain⟨t1,t2,tt,t3⟩:=hs.fI _ _ _ _ _ p2;by_cases hc:n+ys.length<=c;have hq:n*j.size+news.length<=c*j.size:=by have :=ec j.size hc;rw[bD]at this;omega
   have hrun:=nM (P:=E.C.P) (w:=w) (ty:=o.type) (b:=b) (off:=0) Ke ZN hdk hok n2 (n3 w λ_ _=>rfl) hc (λq Nc=>by rw[cz];obtain⟨⟨u,hu⟩,-,-⟩:=t3 (n*j.size+q) oO oO;rw[hu];rfl) (λq Nc=>by rw[cz];exact(t3 (n*j.size+q) oO oO).2.1) n1.one;rw[cz]at hrun;have hg:=hs.PN (news:=news) hxs p1 p2 hq nr oO;have hex:(execOp a.eval o).run E.C.P w=.ok (.value (.slice (some ⟨b,0,none⟩) (n+ys.length) c)) (w.setCells b (n*j.size) news):=by simp[execOp,ho,resolve,invoke,builtin,Nh,PO,hrun]
   refine wp_value hex (hn _ _ _ hK ⟨{G with tail:=λt=>if t=k then some (b,n*j.size+news.length,c*j.size,T)else G.tail t},?_⟩);rw[hd];refine hg.put (some d) (v:=.slice (some ⟨b,0,none⟩) (n+ys.length) c) (x:=.fc k T j.size) (.fc k T j.size (n+ys.length) c b p1 ?_ hc p4);simp only[if_true];rw[nl,bD];obtain⟨olds,ol,or',of'⟩:=Bk (P:=E.C.P) hs hxs p1 p2;obtain⟨rest,z,hz,qB,hrun⟩:=iM (P:=E.C.P) (w:=w) (ty:=o.type) (news:=news) (olds:=olds) Ke ZN hdk hok n2 n3 of' hc hbd hb0;have hcap:n+ys.length<=grownCap w (n+ys.length) c T:=grownCap_ge w _ _ _;generalize hcg:grownCap w (n+ys.length) c T=cap at*;have hrl:rest.size=(cap-(n+ys.length))*j.size:=by rw[qB,size_zeroCells,hz]
   have jE:(olds++news++rest.toList).length=cap*j.size:=by simp only[au,ol,nl,jf,hrl,<-bD];rw[show n+ys.length+(cap-(n+ys.length))=cap from oO]
   obtain⟨G',g1,g2,g3⟩:=Ac hs.drew k hkn (zs:=xs++aF ys.flatten) (cells:=olds++news++rest.toList) (s:=(n+ys.length)*j.size) (cap:=cap*j.size) (e:=T) (by rw[au,hxl,ZO,bD]) jE (λi z hz=>by have hk:∀{v:Value}{z:FV},aQ G w v z->aQ G {w with drawn:=w.drawn+1} v z:=λh=>h.keep (λ_ _ h=>h) (λ_ _ _ _ h=>h) (λ_ _ _ _ h=>h) (λ_ _ h=>h) (λ_ _ h=>h);by_cases hi:i<xs.length;rw[cm hi]at hz;obtain⟨u,h2,h3⟩:=or' i z hz;exact⟨u,by rw[br,cm oO];exact h2,hk h3⟩;rw[dN oO]at hz;obtain⟨u,h2,h3⟩:=nr _ z hz;have YY:=(aC.1 h2).1;refine⟨u,?_,hk h3⟩;rw[cm (by rw[au];omega),dN oO,<-h2];congr 1;omega);have hW:w.drew.alloc (.cells (olds.toArray++news.toArray++rest) T)=({w with drawn:=w.drawn+1}:World).alloc (.cells (olds++news++rest.toList).toArray T):=by
    have :olds.toArray++news.toArray++rest=(olds++news++rest.toList).toArray:=by apply iH.1;simp
    rw[this];rfl
   rw[hW]at hrun;refine wp_value (v:=.slice (some ⟨w.heap.size,0,none⟩) (n+ys.length) cap) (w':=({w with drawn:=w.drawn+1}:World).alloc (.cells (olds++news++rest.toList).toArray T)) ?_ (hn _ _ _ hK ⟨G',?_⟩);simp[execOp,ho,resolve,invoke,builtin,Nh,PO]at hrun⊢;rw[hrun];rfl;rw[hd];exact g1.put (some d) (v:=.slice (some ⟨w.heap.size,0,none⟩) (n+ys.length) cap) (x:=.fc k T j.size) (.fc k T j.size (n+ys.length) cap w.heap.size g2 g3 hcap p4)
  exact h.elim;split at h;rename_i hb0;obtain⟨yT,hb,hK⟩:=h;rw[mF]at hK;generalize KX:a.eval x=v at hx;cases hx with
  |full _ ad hr=>exact fin (k:=S.off+d) KX hr (by simp) (.inl ⟨rfl,rfl⟩) yT (by simpa using hb) (bt hb0) (by simpa using hK)
  exact h.elim;split at h;rename_i hb0;obtain⟨hne,Gj,yT,hb,hK⟩:=h;rw[mF]at hK;obtain⟨zs,rfl,hK⟩:=hK;generalize KX:a.eval x=v at hx;cases hx with
  |full _ ad hr=>exact fin (k:=S.off+d) KX hr Gj (.inr (.inl ⟨hne,rfl⟩)) yT hb (bt hb0) hK
  exact h.elim;exact h.elim
 exact h.elim
theorem Em {d o:Nat}{ys:List AV}{cells:List FV}:∀{l:List (Nat×List FV)},Qv.getObj (Ea d ys l) o=some cells->o≠d/\∃cs,Qv.getObj l o=some cs/\cells=FV.OR d ys cs:=by
 intro l;induction l with
 |nil=>intro h;cases h
 |cons p l ih=>
  obtain⟨u,i⟩:=p;intro h;simp only[Ea]at h;split at h;rename_i hb;obtain rfl:=aK hb;obtain⟨h1,cs,h2,h3⟩:=ih h;refine⟨h1,cs,?_,h3⟩;simp only[Qv.getObj];have :Nat.beq u o=false:=by cases hb:Nat.beq u o;rfl;exact absurd (aK hb).symm h1
  rw[this];exact h2;rename_i hb;simp only[Qv.getObj]at h⊢;split at h;rename_i vk;obtain rfl:=aK vk;obtain rfl:=an h;exact⟨bt hb,i,rfl,rfl⟩;rename_i vk;exact ih h
theorem PY {ys:List AV}(h:tZ ys=true):∀y,y∈ys->y.one=true:=by
 induction ys with
 |nil=>simp
 |cons x xs ih=>simp only[tZ]at h;split at h;rename_i h1;intro y hy;rcases aG.1 hy with rfl|hy;exact h1;exact ih h y hy;cases h
theorem lJ.Be {G G':aV}{S:ah}{w:World}{d:Nat}{ys:List AV}(hi:∀b i es k,w.heap[b]?=some (.map es k)->(∃o,G'.mp o=some b)->G'.aZ b i->G.aZ b i)(hi':∀b,G.aZ b 0->G'.aZ b 0)(hmp:G'.mp=G.mp)(hit:G'.it=G.it)(hl:∀o b,G'.loc o=some b->G.loc o=some b)(ht:∀q r,G.tail (.inr q)=some r->G'.tail (.inr q)=some r:=by first|exactλ_ _ h=>h|exactλ_ _ h=>(aa (λe=>nomatch e)).trans h):lJ (FV.fz d ys) G G' S (S.Be d ys) w:=by refine⟨λ_=>rfl,λo l' h=>?_,λq x h=>⟨h,λr hr=>hit▸hr⟩,λ_ _ h=>hmp▸h,λ_ _ h=>hit▸h,hi,hi',λo b h=>.inl (hl o b h),ht⟩;obtain⟨l,h1,h2⟩:=wF h;exact⟨l,h1,h2,λb hb=>hmp▸hb⟩
theorem bp.afN (hs:bp E G S a w){d:Nat}{cells:List FV}{ys:List AV}(hdn:d≠999999)(hc:Qv.getObj S.aJ d=some cells)(hy:FV.fF cells=some ys)(h1:tZ ys=true):∃G',bp E G' (S.Be d ys) a w/\∀v x,aQ G w v x->aQ G' w v (x.fz d ys):=by
 obtain⟨B,hB,hcell⟩:=hs.aJ d cells hc;obtain⟨Kf,Fq,hl3⟩:=hs.iu d B hB;obtain⟨hlen,vg⟩:=FV.iT hy;let G':aV:={G with aZ:=λb o=>G.aZ b o\/(b=B/\o<ys.length),loc:=λo=>if o=d then none else G.loc o};have hone:=PY h1;have vo:∀o b,G'.loc o=some b->o≠d/\G.loc o=some b:=λo b h=>by simp only[G']at h;split at h;cases h;rename_i hne;exact⟨hne,h⟩
 have up:∀v x,aQ G w v x->aQ G' w v (x.fz d ys):=λv x hv=>by refine hv.fz (B:=B) (λb o h=>.inl h) (λb h=>by rw[hB]at h;exact(an h).symm) (λj y hj=>?_) (λo b hne h=>by simp only[G'];rw[aa hne];exact h) (λ_ _ h=>h);obtain⟨x,hx,hxy⟩:=vg j y hj;obtain⟨c,h2,h3⟩:=hcell j x hx;exact⟨hone y (bA hj),.inr ⟨rfl,(aC.1 hj).1⟩,c,h2,(h3.fe hxy).keep (λb o h=>.inl h) (λ_ _ _ _ h=>h) (.refl _ _)⟩
 have ZP:∀b i es n,b=B->i<ys.length->w.heap[b]?=some (.map es n)->False:=λb i es n e hi hb=>by subst e;obtain⟨x,hx,-⟩:=vg i _ (aq hi);obtain⟨c,h2,-⟩:=hcell i x hx;rw[Ce hb]at h2;cases h2
 refine⟨G',⟨hs.kept,hs.size,hs.ext'.move (S':=S.Be d ys) (FV.fz d ys) rfl rfl rfl up (.refl _) (.Be (λb i es n hb _ h=>h.elim id λh=>(ZP b i es n h.1 h.2 hb).elim) (λ_ h=>.inl h) rfl rfl (λo b h=>(vo o b h).2)),?_,?_,?_,λi hi=>up _ _ (hs.tmps i hi),λo cs ho=>?_,λo b ho=>?_,λo o' b h h'=>hs.fk o o' b (vo _ _ h).2 (vo _ _ h').2,λo t b r h h'=>kV.mono (hs.ck o t b r (vo _ _ h).2 h') (λbs q=>⟨bs,q⟩) (λcs q=>?_),λt b s e T h=>?_,hs.en⟩,up⟩;refine hs.iZ.keep rfl rfl (λo bs q=>?_) (λo _ _ q=>?_) (λ_ _ e=>e) (ay _) (λ_ _ _ _ _ _=>rfl) (λ_ _ _=>rfl) (λo r i e hi=>?_) (λ_ _ o' _ e=>(vo o' _ e).2) (λ_ _ t q _ e=>⟨t,q,e⟩);refine⟨q,?_,rfl⟩;have hne:o≠d:=λe=>by have :=(hs.iZ.at_ o bs q).1;rw[e,hc]at this;cases this
 simp only[G'];rw[aa hne];cases h':Qv.getObj (Ea d ys S.aJ) o with
 |none=>exact h'
 |some cs=>obtain⟨-,cs',h2,-⟩:=Em h';rw[q]at h2;cases h2
 rcases hi with hi|⟨rfl,-⟩;exact hi;exact absurd hB ((hs.iZ.row o _ e).2.2.2.1 d);rintro b o (h|⟨rfl,-⟩);exact hs.oh b o h;exact .inr (E.Pr Fq hdn);rintro b o (h|⟨rfl,-⟩);exact hs.fq b o h;exact Kf;obtain⟨hne,cs0,h2,rfl⟩:=Em ho;obtain⟨b,h3,h4⟩:=hs.aJ o cs0 h2;refine⟨b,by simp only[G'];rw[aa hne];exact h3,λi x hx=>?_⟩;rw[FV.uH,aM]at hx;cases hq:cs0[i]?with
 |none=>simp[hq]at hx
 |some y=>simp[hq]at hx;subst hx;obtain⟨c,h5,h6⟩:=h4 i y hq;exact⟨c,h5,up _ _ h6⟩
 obtain⟨hne,ho'⟩:=vo o b ho;obtain⟨k1,k2,k3⟩:=hs.iu o b ho';refine⟨k1,k2,λi=>⟨?_,(k3 i).2⟩⟩;rintro(h|⟨e,-⟩);exact(k3 i).1 h;exact hne (hs.fk o d b ho' (by rw[e];exact hB));obtain⟨-,cs0,h2,rfl⟩:=Em q;exact⟨cs0,h2,by rw[FV.uH,ai]⟩;obtain⟨k1,k2,kt,k3⟩:=hs.fI t b s e T h;refine⟨k1,k2,kt,λi hi hi'=>?_⟩;obtain⟨k4,k5,k6⟩:=k3 i hi hi';refine⟨k4,k5,?_⟩;rintro(h7|⟨rfl,hlt⟩);exact k6 h7;have :=(hs.ck d t b _ hB h).2.2 cells hc;simp only at this;omega
theorem bp.Be (hs:bp E G S a w){d:Nat}{cells:List FV}{ys:List AV}(hdn:d≠999999)(hc:Qv.getObj S.aJ d=some cells)(hy:FV.fF cells=some ys)(h1:tZ ys=true):∃G',bp E G' (S.Be d ys) a w:=let⟨G',h,_⟩:=hs.afN hdn hc hy h1;⟨G',h⟩
theorem yW:∀(ds:List Nat){K:ah->Prop}{S:ah},Fl ds K S->pJ E S a w->∃S',K S'/\pJ E S' a w|[],_,S,h,hs=>⟨S,h,hs⟩|d::ds,K,S,h,⟨G,hs⟩=>by simp only[Fl]at h;split at h;exact h.elim;rename_i cells hc;split at h;exact h.elim;rename_i ys hy;split at h;rename_i h1;exact yW ds h (hs.Be (iU hc).1 (iU hc).2 hy h1);exact h.elim
def marksOf:List Deferred->List Nat|[]=>[]|d::ds=>match d.target with|.collected r=>r::marksOf ds|_=>marksOf ds
theorem lQ (ms:List Nat):marksOf (ms.map mark)=ms:=by
 induction ms with
 |nil=>rfl
 |cons m ms ih=>simp[marksOf,ih]
def Env.push (E:Env)(a:Act):Env:={E with mu:=none,bF:=a.tmps::E.bF,fixed:=marksOf a.defers++E.fixed}
def eN (E:Env)(Y:oN):Prop:=∀(mu:Option Nat)(xs:List (Array Value))(ls:List (Nat×Loop))(fixed:List Nat)(G:aV)(S:ah)(a:Act)(w:World)(l k:Nat)(args:List FV)(K:FV->ah->Prop)(vals:List Value),bp {E with mu:=mu,bF:=xs++E.bF,loops:=E.loops++ls,fixed:=fixed} G S a w->G.yl l=some k->Y l args K S->vals.length=args.length->(∀(i:Nat)(v:Value)(x:FV),vals[i]?=some v->args[i]?=some x->aQ G w v x)->YieldAt Fence.wide 0 E.C.P k vals.toArray w λe w'=>∃v x G' S',e=.returned v/\K x S'/\bp {E with mu:=mu,bF:=xs++E.bF,loops:=E.loops++ls,fixed:=fixed} G' S' a w'/\aQ G' w' v x
theorem eN.later {Y:oN}(h:eN E Y)(mu:Option Nat)(xs:List (Array Value))(ls:List (Nat×Loop))(fixed:List Nat):eN {E with mu:=mu,bF:=xs++E.bF,loops:=E.loops++ls,fixed:=fixed} Y:=by intro akG xs' ls' fixed' G S a w l k args K vals hs;simp only[<-br]at hs⊢;rw[br E.loops ls ls']at hs⊢;exact h akG (xs'++xs) (ls++ls') fixed' G S a w l k args K vals hs
theorem eN.push {Y:oN}(h:eN E Y)(a:Act):eN (E.push a) Y:=by have :=h.later none [a.tmps] [] (marksOf a.defers++E.fixed);simp only[bg]at this;exact this
def lZ (C:Ctx)(call:ig):Prop:=∀(E:Env),E.C=C->∀(Y:oN)(g:FuncId)(args:List FV)(K:FV->ah->Prop)(G:aV)(S:ah)(a:Act)(w:World)(vals:List Value),bp E G S a w->eN (E.push a) Y->call Y g args K S->vals.length=args.length->(∀(i:Nat)(v:Value)(x:FV),vals[i]?=some v->args[i]?=some x->aQ G w v x)->(∃fn,C.P.funcs[g]?=some fn/\fn.body.isNone=false/\(fn.name== "runtime.NumGoroutine")=false)/\CallsIn Fence.wide 0 C.P g vals.toArray w λe w'=>∃v x G' S',e=.returned v/\K x S'/\bp E G' S' a w'/\aQ G' w' v x
theorem PZ {P:Program}{f:FuncId}{args:Array Value}{w:World}{R:Ending->World->Prop}(h:CallsIn Fence.wide 0 P f args w R):CallsIn E.kG 0 P f args w R:=by unfold Env.kG;split;exact h;exact CallsIn.inRound _ h
theorem yQ {P:Program}{l:Nat}{f:FuncId}{tmps:Array Value}{assign body:Code}{w:World}{R:Ending->World->Prop}(h:RoundIn Fence.wide 0 P l f tmps assign body w R):RoundIn E.kG 0 P l f tmps assign body w R:=by unfold Env.kG;split;exact h;exact h
theorem yX {aZ:Nat->Nat->Prop}{cs:List Value}{xs:List AV}(h:cs.length=xs.length/\∀(i:Nat)(c:Value)(x:AV),cs[i]?=some c->xs[i]?=some x->cZ aZ w c x)(hi:aZ=G.aZ):cs.length=(aF xs).length/\∀(i:Nat)(c:Value)(x:FV),cs[i]?=some c->(aF xs)[i]?=some x->aQ G w c x:=by
 rw[eO];refine⟨by simp[h.1],λi c x hc hx=>?_⟩;rw[aM]at hx;cases hq:xs[i]?with
 |none=>simp[hq]at hx
 |some y=>simp[hq]at hx;subst hx;exact .p _ _ (hi▸h.2 i c y hc hq)
theorem wp_bld (hs:bp E G S a w){f:Operand}{args:Array Operand}{types:Array TypeId}{g:FuncId}{first captured:Array Value}{ob:Nat}{bs:List UInt8}{rest:List FV}{K:ah->Prop}(ho:o.op=.call ⟨.value f,args,types⟩)(hf:a.eval f=.func (.func g) first captured)(hr:(first++args.map a.eval++captured).toList.length=(FV.ptr ob 0::rest).length/\∀(i:Nat)(c:Value)(x:FV),(first++args.map a.eval++captured).toList[i]?=some c->(FV.ptr ob 0::rest)[i]?=some x->aQ G w c x)(xX:lH S.cw ob=some bs)(h:Zi E.C S o.dst g ob bs rest K){next:Act->World->Prop}{Q:Exit->Act->World->Prop}(hn:∀S' a' w',K S'->pJ E S' a' w'->next a' w'):CB E o a w next Q:=by
 unfold Zi at h;split at h;exact h.elim;rename_i xs hxs;obtain⟨out,r,⟨⟨fn,h1,h2,h3⟩,hc⟩,hk⟩:=h;generalize hvs:(first++args.map a.eval++captured)=vs at hr;obtain⟨vs⟩:=vs;match vs,hr with
  |[],hr=>simp at hr
  |v0::vs,hr=>
   obtain⟨b,rfl,hl⟩:=(hr.2 0 v0 _ rfl rfl).oG;obtain⟨-,b0,hl0,uJ⟩:=hs.iZ.at_ ob bs xX;rw[hl]at hl0;obtain rfl:=an hl0;have qB:=mI (G:=G) (w:=w) (cs:=vs) (xs:=rest) ⟨by simpa using hr.1,λi c x q1 q2=>hr.2 (i+1) c x (by simpa using q1) (by simpa using q2)⟩ hxs;obtain⟨-,l2,l3⟩:=hs.iu ob b hl;have hng:E.C.ov<=b:=by rcases l2 with l2|l2;have :=E.hn;omega;exact(E.hown b (Env.Cc l2.2)).1
   have :=hc G.aZ w b (G.row ob) vs hs.J.1 hs.J.2 hs.fq hng (λr hr=>by rcases(hs.iZ.row ob r hr).1 with h|h;have :=E.hn;omega;exact(E.hown r h.2).1) (λi=>(l3 i).1) (λr i hr=>(hs.iZ.row ob r hr).2.2.1 i) uJ qB.1 qB.2;refine⟨λf _=>Env.gd f,?_⟩;have Ta:first++args.map a.eval++captured=(.pointer (some ⟨b,0,none⟩)::vs).toArray:=by rw[hvs]
   rw[Oper.semAt_eq _ _ _ (λc=>by rw[ho];simp),vj ho hf h1 h2 h3,Oper.uponIn_enter,Ta];refine⟨λh=>(by rw[Env.lM]at h;cases h),oz (Calls.mono this ?_)⟩;rintro e w' ⟨v,rfl,hv,hout,f1,f2,f3,f4,f5⟩;have WU:∀{G':aV},aQ G' w' v (.p r):=λ{G'}=>.p _ _ (hv.keep (λ_ _ h=>h.elim) (λ_ _ _ h=>h.elim) (λ_ _ _ h=>h.elim));cases out with
   |some bs'=>
    obtain⟨row',adI,hrow⟩:=hout;have hlt:∀x,row'=some x->x<w'.heap.size:=λx hx=>by obtain⟨p,u,-,-,h6⟩:=adI;rw[hx]at h6;obtain⟨-,cap,cur,-,h7,-⟩:=h6;exact(bC.1 h7).1
    obtain⟨hg,-⟩:=hs.Vh (Vi:=Zg S.cw ob bs') (row':=row') xX hl (by obtain⟨p,u,-,h6,-⟩:=adI;exact⟨_,_,h6⟩) (hrow.imp id λh=>h.imp id λ⟨x,q1,q2⟩=>⟨x,q1,q2,hlt x q1⟩) (λx hx=>by obtain⟨p,u,-,-,h6⟩:=adI;rw[hx]at h6;obtain⟨-,cap,cur,-,h7,-⟩:=h6;exact⟨_,_,_,h7⟩) f1 f2 f3 f4 f5 (λq bs2 hq=>(ZG hq).imp (λ⟨q1,q2⟩=>⟨q1,q2▸adI⟩) id);exact hn _ _ _ hk ⟨_,hg.put o.dst WU⟩
   |none=>obtain⟨hg,-⟩:=hs.Vh (Vi:=BU ob S.cw) (row':=none) xX hl hout (.inr (.inl rfl)) (λx hx=>by cases hx) f1 f2 f3 f4 f5 (λq bs2 hq=>.inr (jW hq));exact hn _ _ _ hk ⟨_,hg.put o.dst WU⟩
theorem bp.ZR (hs:bp E G S a w){ob b:Nat}{cells:List FV}(xX:Qv.getObj S.aJ ob=some cells)(gb:G.loc ob=some b)(hne:cells≠[]):∃cs T fr,w.heap[b]?=some (.cells cs T fr):=by obtain⟨b',h1,h2⟩:=hs.aJ ob cells xX;rw[gb]at h1;obtain rfl:=an h1;match cells,hne with|x::xs,_=>obtain⟨c,h3,-⟩:=h2 0 x rfl;unfold World.cell? at h3;split at h3;rename_i h4;exact⟨_,_,_,h4⟩;cases h3
theorem iX (d:Nat):∀l:List AV,FV.eL d (aF l)=aF l|[]=>rfl|x::l=>by simp[aF,FV.eL,FV.kill,iX d l]
theorem HF (d:Nat)(c:List FV):∀l:List (Nat×List FV),eo d (setObj l d c)=eo d l|[]=>rfl|(u,i)::l=>by simp only[setObj];split;rename_i h;simp only[eo,h];rename_i h;simp only[eo,h];rw[HF d c l]
theorem Gl {ob:Nat}{cells cs:List FV}:∀{l:List (Nat×List FV)},Qv.getObj l ob=some cells->Qv.getObj (setObj l ob cs) ob=some cs:=by
 intro l;induction l with
 |nil=>intro h;cases h
 |cons p l ih=>obtain⟨u,i⟩:=p;intro h;simp only[Qv.getObj]at h;simp only[setObj];split at h;rename_i hb;simp only[hb,Qv.getObj];rename_i hb;simp only[hb,Qv.getObj];exact ih h
theorem bp.ais (hs:bp E G S a w){ob b:Nat}{cells:List FV}{zs:List AV}{w':World}(xX:Qv.getObj S.aJ ob=some cells)(gb:G.loc ob=some b)(hbc:∃cs T fr,w.heap[b]?=some (.cells cs T fr))(hlen:zs.length=cells.length)(hc:∀(i:Nat)(x:AV),zs[i]?=some x->∃c,w'.cell? ⟨b,i,none⟩=some c/\cZ (mz G.aZ w.heap.size) w' c x)(hos:w'.os=w.os)(ZF:w'.tape=w.tape)(hout:w'.output=w.output)(hsz:w.heap.size<=w'.heap.size)(hblk:∀k,k<w.heap.size->k≠b->w'.heap[k]?=w.heap[k]?)(hsh:∀cs T fr,w.heap[b]?=some (.cells cs T fr)->∃cs',w'.heap[b]?=some (.cells cs' T fr)/\cs'.size=cs.size):bp E {G with aZ:=λb o=>G.aZ b o\/(w.heap.size<=b/\b<w'.heap.size)} (S.BX ob (aF zs)) a w':=by
 obtain⟨l1,l2,l3⟩:=hs.iu ob b gb;obtain⟨cs,T,fr,hb⟩:=hbc;obtain⟨cs',hb',akH⟩:=hsh cs T fr hb;have Cf:∀k i,G.aZ k i->k≠b:=λk i h e=>(l3 i).1 (e▸h);have hcell:∀k i,k<w.heap.size->k≠b->w'.cell? ⟨k,i,none⟩=w.cell? ⟨k,i,none⟩:=λk i h1 h2=>by unfold World.cell?;simp only[hblk k h1 h2]
 have Ve:∀k i,k<w.heap.size->w'.frozen? ⟨k,i,none⟩=w.frozen? ⟨k,i,none⟩:=λk i h1=>by by_cases h2:k=b;subst h2;simp[World.frozen?,hb,hb'];unfold World.frozen?;simp only[hblk k h1 h2]
 have others:ga w w':=λk o hk ho=>by rw[hblk k (bC.1 hk).1 (λe=>by subst e;rw[hb]at hk;obtain rfl:=an hk;simp[Obj.isCells]at ho)];exact hk
 have keep:∀v x,aQ G w v x->aQ {G with aZ:=λb o=>G.aZ b o\/(w.heap.size<=b/\b<w'.heap.size)} w' v x:=λv x hv=>hv.keep (λb o hi=>.inl hi) (λk o c hi hc=>by rw[hcell k o (hs.fq k o hi) (Cf k o hi)];exact hc) (others.qG _) (λ_ _ e=>e) (λ_ _ e=>e);have Vm:∀o r,G.row o=some r->r≠b:=λo r h e=>(hs.iZ.row o r h).2.2.2.1 ob (e▸gb);refine⟨⟨hos.trans hs.kept.os,ZF.trans hs.kept.tape,hout.trans hs.kept.output,bH hs.kept.size hsz,λk hk hk'=>?_,λk c1 T1 f1 hk q=>?_⟩,hs.size,hs.ext'.keep rfl rfl rfl keep others (JK:=.more rfl rfl rfl rfl (λb i hi=>hi.imp id λhi=>hi.1) (λb hi=>.inl hi) λ_ _ h=>.inl h),?_,?_,?_,λi hi=>keep _ _ (hs.tmps i hi),λo cs2 ho=>?_,λo b2 ho=>?_,hs.fk,λo t b2 r q1 q2=>?_,λt b2 s e T2 h=>?_,hs.en⟩;rw[hblk k (fO hk hs.kept.size) (E.Vd l2 hk hk')];exact hs.kept.block k hk hk';obtain⟨c2,q1,q2⟩:=hs.kept.shape k c1 T1 f1 hk q;by_cases hkb:k=b;subst hkb;obtain⟨c3,q3,q4⟩:=hsh c2 T1 f1 q1;exact⟨c3,q3,q4.trans q2⟩;exact⟨c2,by rw[hblk k (bC.1 q1).1 hkb];exact q1,q2⟩;refine hs.iZ.keep rfl rfl (λo bs q=>⟨q,rfl,rfl⟩) (λo bs _ q=>?_) (λ_ _ e=>e) hsz (λo bs b2 q q2 e=>hblk b2 (hs.iu o b2 e).1 (λe2=>?_)) (λo r e=>hblk r (hs.iZ.row o r e).2.1 (Vm o r e)) (λo r i e hi=>hi.elim id λhi=>absurd (hs.iZ.row o r e).2.1 oO) (λ_ _ _ _ e=>e) (λ_ _ t q _ e=>⟨t,q,e⟩);cases h':Qv.getObj (S.BX ob (aF zs)).aJ o with
 |none=>rfl
 |some cs=>rcases qL h' with⟨rfl,-⟩|⟨-,h2⟩;rw[xX]at q;cases q;rw[q]at h2;cases h2
 have :=hs.fk o ob b2 e (e2▸gb);subst this;rw[xX]at q2;cases q2;rintro k o (hi|⟨hi,_⟩);exact hs.oh k o hi;exact .inr (bH hs.kept.size hi);rintro k o (hi|⟨_,hi⟩);exact fO (hs.fq k o hi) hsz;exact hi;rcases qL ho with⟨rfl,rfl⟩|⟨hne,ho⟩;refine⟨b,gb,λi y hy=>?_⟩;rw[eO,aM]at hy;cases hq:zs[i]?with
 |none=>simp[hq]at hy
 |some z=>simp only[hq,eC,bM]at hy;subst hy;obtain⟨c,h1,h2⟩:=hc i z hq;refine⟨c,h1,.p _ _ (h2.yy (λb o c hi hc=>⟨hi.imp id λh=>⟨h,World.block_lt_of_cell? w' _ hc⟩,hc⟩) λb es k hi hb=>⟨hi.imp id λh=>⟨h,(bC.1 hb).1⟩,hb⟩)⟩
 obtain⟨b2,h2,h3⟩:=hs.aJ o cs2 ho;have vk:b2≠b:=λe=>hne (hs.fk o ob b2 h2 (e▸gb));exact⟨b2,h2,λi y hy=>let⟨c,h4,h5⟩:=h3 i y hy;⟨c,by rw[hcell b2 i (hs.iu o b2 h2).1 vk];exact h4,keep _ _ h5⟩⟩;obtain⟨k1,k2,k3⟩:=hs.iu o b2 ho;refine⟨fO k1 hsz,k2,λi=>⟨?_,by rw[Ve b2 i k1];exact(k3 i).2⟩⟩;rintro(hi|⟨hi,_⟩);exact(k3 i).1 hi;omega;refine kV.mono (hs.ck o t b2 r q1 q2) (λbs q=>⟨bs,q⟩) λcs q=>?_;rcases qL q with⟨rfl,rfl⟩|⟨-,q⟩;exact⟨cells,xX,by rw[eO,ai];exact hlen⟩;exact⟨cs,q,rfl⟩;obtain⟨k1,k2,⟨c1,f1,kt,ku⟩,k3⟩:=hs.fI t b2 s e T2 h;by_cases vk:b2=b;subst vk;rw[hb]at kt;injection an kt with e1 e2 e3;subst e1;subst e2;subst e3;refine⟨fO k1 hsz,k2,⟨_,_,hb',ku⟩,λi hi hi'=>?_⟩;obtain⟨⟨c,k4⟩,k5,k6⟩:=k3 i hi hi';refine⟨?_,by rw[Ve b2 i k1];exact k5,?_⟩;have hlt:i<cs.size:=by simp only[World.cell?,hb]at k4;exact(bC.1 (by simpa using k4)).1
 exact⟨cs'[i]'oO,by simp[World.cell?,hb',akH▸hlt]⟩;rintro(hi|⟨hi,_⟩);exact k6 hi;omega;refine⟨fO k1 hsz,k2,⟨c1,f1,by rw[hblk b2 k1 vk];exact kt,ku⟩,λi hi hi'=>?_⟩;obtain⟨⟨c,k4⟩,k5,k6⟩:=k3 i hi hi';refine⟨⟨c,by rw[hcell b2 i k1 vk];exact k4⟩,by rw[Ve b2 i k1];exact k5,?_⟩;rintro(hi|⟨hi,_⟩);exact k6 hi;omega
theorem wp_obj (hs:bp E G S a w){f:Operand}{args:Array Operand}{types:Array TypeId}{g:FuncId}{first captured:Array Value}{xs:List FV}{K:ah->Prop}(ho:o.op=.call ⟨.value f,args,types⟩)(hf0:a.eval f=.func (.func g) first captured)(hr:(first++args.map a.eval++captured).toList.length=xs.length/\∀(i:Nat)(c:Value)(x:FV),(first++args.map a.eval++captured).toList[i]?=some c->xs[i]?=some x->aQ G w c x)(h:Pj E.C S o.dst g xs K){next:Act->World->Prop}{Q:Exit->Act->World->Prop}(hn:∀S' a' w',K S'->pJ E S' a' w'->next a' w'):CB E o a w next Q:=by
 unfold Pj at h;split at h;rename_i ob rest;split at h;rename_i cells as1 xX has;split at h;rename_i z zs hcells;obtain⟨R,⟨⟨fn,h1,h2,h3⟩,hc⟩,hk⟩:=h;obtain⟨b,gb,hcs⟩:=hs.aJ ob cells xX;obtain⟨l1,l2,l3⟩:=hs.iu ob b gb;obtain⟨g1,g2⟩:=FV.iT hcells;generalize hvs:(first++args.map a.eval++captured)=vs0 at hr;obtain⟨vs⟩:=vs0;match vs,hr with
  |[],hr=>simp at hr
  |v::vs,hr=>
   have hv:=hr.2 0 v _ rfl rfl;obtain⟨b',rfl,hb'⟩:=hv.oG;rw[gb]at hb';obtain rfl:=an hb';have Ta:=mI (cs:=vs) (xs:=rest) (ys:=as1) ⟨by simpa using hr.1,λi c x q1 q2=>hr.2 (i+1) c x (by simpa using q1) (by simpa using q2)⟩ has;have hJ:=hs.J;have hng:E.C.ov<=b:=by rcases l2 with l2|l2;have :=E.hn;omega;exact(E.hown b (Env.Cc l2.2)).1
   have :=hc G.aZ w b vs hJ.1 hJ.2 hs.fq hng l1 l3 (λi x hx=>by obtain⟨y,hy,hxy⟩:=g2 i x hx;obtain⟨c,q1,q2⟩:=hcs i y hy;exact⟨c,q1,q2.fe hxy⟩) Ta.1 Ta.2;refine⟨λf _=>Env.gd f,?_⟩;rw[Oper.semAt_eq _ _ _ (λc=>by rw[ho];simp),vj ho hf0 h1 h2 h3,Oper.uponIn_enter,hvs];refine⟨λh=>(by rw[Env.lM]at h;cases h),oz (Calls.mono this ?_)⟩;rintro e w' ⟨u,r,cells',rfl,hR,hl,om,ZS,q1,q2,q3,q4,q5,q6⟩;have hne:cells≠[]:=λe=>by subst e;simp at g1
   have hs':=hs.ais xX gb (hs.ZR xX gb hne) (zs:=cells') (hl.trans g1) ZS q1 q2 q3 q4 q5 q6;refine hn _ _ _ (hk r cells' hR) ⟨_,hs'.put o.dst (.p _ _ (om.yy (λb o c hi hc=>⟨hi.imp id λh=>⟨h,World.block_lt_of_cell? w' _ hc⟩,hc⟩) λb es k hi hb=>⟨hi.imp id λh=>⟨h,(bC.1 hb).1⟩,hb⟩))⟩
 exact h.elim;exact h.elim;rename_i ob T bN rest;split at h;rename_i cells as1 akK has;split at h;rename_i zs hcells;obtain⟨hon,xX⟩:=iU akK;obtain⟨R,⟨⟨fn,h1,h2,h3⟩,hc⟩,hk⟩:=h;obtain⟨b,gb,hcs⟩:=hs.aJ ob cells xX;obtain⟨l1,l2,l3⟩:=hs.iu ob b gb;obtain⟨g1,g2⟩:=FV.iT hcells;generalize hvs:(first++args.map a.eval++captured)=vs0 at hr;obtain⟨vs⟩:=vs0;match vs,hr with
  |[],hr=>simp at hr
  |v::vs,hr=>
   have hv:=hr.2 0 v _ rfl rfl;obtain⟨n,c,b',rfl,p1,p2,p3,p4⟩:=hv.Gz;rw[gb]at p1;obtain rfl:=an p1;have Ta:=mI (cs:=vs) (xs:=rest) (ys:=as1) ⟨by simpa using hr.1,λi c x q1 q2=>hr.2 (i+1) c x (by simpa using q1) (by simpa using q2)⟩ has;have hJ:=hs.J;have hng:E.C.ov<=b:=by rcases l2 with l2|l2;have :=E.hn;omega;exact(E.hown b (Env.Cc l2.2)).1
   have hlen:=(hs.ck ob ob b _ gb p2).2.2 cells xX;obtain⟨-,-,⟨cs,fr,tt,-⟩,-⟩:=hs.fI _ _ _ _ _ p2;have :=hc G.aZ w b n c vs hJ.1 hJ.2 hs.fq hng l1 l3 ⟨cs,fr,tt⟩ (g1.trans hlen) p3 p4 (λi x hx=>by obtain⟨y,hy,hxy⟩:=g2 i x hx;obtain⟨c,q1,q2⟩:=hcs i y hy;exact⟨c,q1,q2.fe hxy⟩) Ta.1 Ta.2;refine⟨λf _=>Env.gd f,?_⟩;rw[Oper.semAt_eq _ _ _ (λc=>by rw[ho];simp),vj ho hf0 h1 h2 h3,Oper.uponIn_enter,hvs];refine⟨λh=>(by rw[Env.lM]at h;cases h),oz (Calls.mono this ?_)⟩;rintro e w' ⟨u,r,ys,full,rfl,hR,hl,hres,ZS,q1,q2,q3,q4,q5,q6⟩;have hs':=hs.ais xX gb ⟨cs,T,fr,tt⟩ (zs:=full) (hl.trans g1) ZS q1 q2 q3 q4 q5 q6;have hk:=hk r ys hR;unfold Zm at hk;cases r with
   |false=>obtain⟨rfl,rfl⟩:=hres;exact hn _ _ _ hk ⟨_,hs'.put o.dst (v:=.tuple #[]) (x:=.p (.eY [])) (jt _ _)⟩
   |true=>
    obtain⟨m,rfl,hm,rfl⟩:=hres;simp only at hk;split at hk;rename_i d hd;obtain⟨zs',rfl,hk⟩:=hk;have adF:=hs'.Vk (k:=ob) (xs:=aF full) (Gl xX) gb p2 (n:=m*bN) (ec _ hm) (ec _ p3);have e1:FV.eL ob ((aF full).take (m*bN))=aF (full.take (m*bN)):=by rw[show(aF full).take (m*bN)=aF (full.take (m*bN))from by rw[eO,eO,mc],iX]
    have e2:eo ob (S.BX ob (aF full)).aJ=eo ob S.aJ:=HF ob _ S.aJ;rw[e1,e2]at adF;rw[hd];exact hn _ _ _ hk ⟨_,adF.put (some d) (v:=.slice (some ⟨b,0,none⟩) m c) (x:=.fc ob T bN) (.fc ob T bN m c b gb (by simp only[if_true]) oO p4)⟩;exact hk.elim
 exact h.elim;exact h.elim;rcases h with h|h;obtain⟨d,ks,vs,hf,h⟩:=h;split at h;rename_i ys hys;obtain⟨R,hc,hk⟩:=h;obtain⟨G',hs',up⟩:=hs.SZ hf;refine wp_call hs' ho hf0 (mI (xs:=FV.YT d (.mp ks vs) xs) ⟨by rw[FV.we,ai];exact hr.1,λi c x q1 q2=>?_⟩ hys) hc λr v w' hR hb hok=>?_;rw[FV.we,aM]at q2;cases hq:xs[i]?with
 |none=>simp[hq]at q2
 |some y=>simp[hq]at q2;subst q2;exact up _ _ (hr.2 i c y q1 hq)
 obtain⟨WT,hk'⟩:=Gx (hk r hR);exact hn _ _ _ hk' (vp hs' hb hok WT);exact h.elim;obtain⟨d,ys,h⟩:=h;split at h;exact h.elim;rename_i cells hcell;obtain⟨hy,h1,h⟩:=h;split at h;rename_i zs hzs;obtain⟨R,hc,hk⟩:=h;obtain⟨G',hs',up⟩:=hs.afN (iU hcell).1 (iU hcell).2 hy h1;refine wp_call hs' ho hf0 (mI (xs:=FV.OR d ys xs) ⟨by rw[FV.uH,ai];exact hr.1,λi c x q1 q2=>?_⟩ hzs) hc λr v w' hR hb hok=>?_;rw[FV.uH,aM]at q2;cases hq:xs[i]?with
 |none=>simp[hq]at q2
 |some y=>simp[hq]at q2;subst q2;exact up _ _ (hr.2 i c y q1 hq)
 obtain⟨WT,hk'⟩:=Gx (hk r hR);exact hn _ _ _ hk' (vp hs' hb hok WT);exact h.elim
theorem Ad:∀{xs:List FV},FV.Hf xs=true->∀x,x∈xs->x.only=true:=by
 intro xs;induction xs with
 |nil=>intro _ x hx;cases hx
 |cons y ys ih=>intro h x hx;simp only[FV.Hf]at h;split at h;rename_i hy;rcases aG.1 hx with rfl|hx;exact hy;exact ih h x hx;cases h
theorem aQ.agv {G:aV}{w:World}{v:Value}{x:FV}{b:Nat}(h:aQ G w v x)(hb:G.loc 999999=some b):x.only=true->aQ (agv G.aZ b) w v x:=by
 induction h with
 |p v x h=>intro _;exact .p v x h
 |agg cs xs hn _ ih=>intro hs;simp only[FV.only]at hs;exact .agg cs xs hn λi c x h1 h2=>ih i c x h1 h2 (Ad hs x (bA h2))
 |eY cs xs hn _ ih=>intro hs;simp only[FV.only]at hs;exact .eY cs xs hn λi c x h1 h2=>ih i c x h1 h2 (Ad hs x (bA h2))
 |ptr o off b' h=>intro hs;simp only[FV.only]at hs;obtain rfl:=aK hs;rw[hb]at h;obtain rfl:=an h;exact .ptr _ _ _ (by simp[Qv.agv])
 |full xs a h=>intro _;exact .full xs a h
 |fn f fs cs first captured hn hn' _ _ ih GU=>intro hs;simp only[FV.only]at hs;split at hs;rename_i h1;exact .fn f fs cs first captured hn hn' (λi c x h2 h3=>ih i c x h2 h3 (Ad h1 x (bA h3))) (λi c x h2 h3=>GU i c x h2 h3 (Ad hs x (bA h3)));cases hs
 |dr v=>intro _;exact .dr v
 |_=>intro hs;simp[FV.only]at hs
theorem cZ.He {aZ qF:Nat->Nat->Prop}{w:World}{v:Value}{x:AV}(h:cZ aZ w v x)(hx:x.He=true):cZ qF w v x:=by
 cases h with
 |eY cs xs hl hr=>exact .eY cs xs hl λi c x h1 h2=>(hr i c x h1 h2).flat (DY hx x (bA h2))
 |bool b=>exact .bool b
 |int k n=>exact .int k n
 |str s=>exact .str s
 |vX=>exact .vX
 |Bd=>exact .Bd
 |rW=>exact .rW
 |kQ=>exact .kQ
 |_=>simp[AV.He,AV.flat]at hx
def yY (w:World):Nat->Nat->Prop:=λb _=>b<w.heap.size
theorem cZ.all (hs:bp E G S a w){v:Value}{x:AV}(h:cZ G.aZ w v x):cZ (yY w) w v x:=h.keep (λb o h=>hs.fq b o h) (λ_ _ _ _ h=>h) (.refl _ _)
mutual theorem ZT (hs:bp E G S a w):∀{v:Value}{x:FV}{y:AV},aQ G w v x->Fk S x y->cZ (yY w) w v y
 |v,x,y,hx,.plain h=>cZ.all hs (hx.fe h)
 |v,.fc ob T bN,.sl xss,hx,.fc (cells:=cells) h1 h2 h3=>by
  obtain⟨n,c,b,rfl,p1,p2,p3,p4⟩:=hx.Gz;obtain⟨-,xX⟩:=iU h1;have hlen:=(hs.ck ob ob b _ p1 p2).2.2 cells xX;obtain⟨b',AO,hcs⟩:=hs.aJ ob cells xX;rw[p1]at AO;obtain rfl:=an AO;have g:=pn hs h2;have hfl:xss.flatten.length=xss.length*bN:=gF λzs hz=>(h3 zs hz).1;have hn:n=xss.length:=by
   have :xss.length*bN=n*bN:=by rw[<-hfl,g.1];exact hlen
   exact(gm p4 this).symm
  subst hn;have hb:=(hs.iu ob b p1).1;have get:∀(i:Nat)(ys:List AV)(j:Nat)(y:AV),xss[i]?=some ys->ys[j]?=some y->∃u,w.cell? ⟨b,i*bN+j,none⟩=some u/\cZ (yY w) w u y:=λi ys j y q1 q2=>by
   have q:=lP (λzs hz=>(h3 zs hz).1) q1 q2;have hlt:i*bN+j<cells.length:=by rw[<-g.1];exact(aC.1 q).1
   obtain⟨c,k1,k2⟩:=hcs _ _ (aq hlt);exact⟨c,k1,g.2 _ _ _ _ (aq hlt) q k2⟩
  refine .sl b 0 c bN xss (λi j=>(w.cell? ⟨b,i*bN+j,none⟩).getD undef) (λi ys q=>(h3 ys (bA q)).1) (λi ys j y q1 q2=>(h3 ys (bA q1)).2 y (bA q2)) (λi ys j y q1 q2=>?_) (λi ys j y q1 q2=>hb) (λi ys j y q1 q2=>?_) p3;obtain⟨u,k1,k2⟩:=get i ys j y q1 q2;rw[cz,k1];rfl;obtain⟨u,k1,k2⟩:=get i ys j y q1 q2;rw[k1];exact k2
 |v,.ptr ob 0,.imp ys,hx,.ptr (cells:=cells) h1 h2 h3=>by
  obtain⟨b,rfl,p1⟩:=hx.oG;obtain⟨-,xX⟩:=iU h1;have hb:=(hs.iu ob b p1).1;obtain⟨b',AO,hcs⟩:=hs.aJ ob cells xX;rw[p1]at AO;obtain rfl:=an AO;have g:=pn hs h2;have get:∀(j:Nat)(y:AV),ys[j]?=some y->∃u,w.cell? ⟨b,j,none⟩=some u/\cZ (yY w) w u y:=λj y q=>by
   have hlt:j<cells.length:=by rw[<-g.1];exact(aC.1 q).1
   obtain⟨c,k1,k2⟩:=hcs _ _ (aq hlt);exact⟨c,k1,g.2 _ _ _ _ (aq hlt) q k2⟩
  refine .imp b 0 ys (λj=>(w.cell? ⟨b,j,none⟩).getD undef) (λj y q=>h3 y (bA q)) (λj y q=>?_) (λj y q=>hb) (λj y q=>?_);obtain⟨u,k1,k2⟩:=get j y q;rw[cz,k1];rfl;obtain⟨u,k1,k2⟩:=get j y q;rw[k1];exact k2
 |v,.fK ob,.mp ks vs,hx,.fK (l:=l) h1 h2 h3=>by
  cases hx with
  |fK _ b0 hm=>
   obtain⟨b,fZ,es,p1,p2,p3,p4,p5⟩:=hs.ext'.mps.at_ ob l h1;rw[hm]at p1;obtain rfl:=an p1;have hb:b0<w.heap.size:=(bC.1 p2).1;have g:=pn hs h3;have ZU:ks.length=l.length:=by rw[<-h2,nK,ai]
   refine .mp b0 fZ es ks vs oO (by rw[g.1,Aa,ai];omega) hb p2 p3 (λi e x q1 q2=>?_) (λi e x q1 q2=>?_);have zZ:i<l.length:=by have :=(aC.1 q1).1;omega
   have :=(p5 i e _ q1 (aq zZ)).1;rw[<-h2,nK,aM,aq zZ]at q2;obtain rfl:=an q2;exact cZ.all hs this;have zZ:i<l.length:=by have :=(aC.1 q1).1;omega
   have :=(p5 i e _ q1 (aq zZ)).2;exact g.2 i _ _ _ (by rw[Aa,aM,aq zZ];rfl) q2 this
 |v,.fn ff fs cs,.fn _ a b,hx,.fn h1 h2=>by
  cases hx with
  |fn _ vs us _ _ q1 q2 q3 q4=>
   have g1:=pn hs h1;have g2:=pn hs h2;refine .fn _ vs us a b (q1.trans g1.1.symm) (q2.trans g2.1.symm) (λi c x k1 k2=>?_) (λi c x k1 k2=>?_);have hlt:i<fs.length:=by rw[<-g1.1];exact(aC.1 k2).1
   exact g1.2 i _ _ _ (aq hlt) k2 (q3 i c _ k1 (aq hlt));have hlt:i<cs.length:=by rw[<-g2.1];exact(aC.1 k2).1
   exact g2.2 i _ _ _ (aq hlt) k2 (q4 i c _ k1 (aq hlt))
 |v,.agg xs,.agg ys,hx,.agg h1 h2=>by
  cases hx with
  |agg vs _ q1 q2=>
   have g1:=pn hs h1;refine .agg vs ys (q1.trans g1.1.symm) h2 (λi c x k1 k2=>?_);have hlt:i<xs.length:=by rw[<-g1.1];exact(aC.1 k2).1
   exact g1.2 i _ _ _ (aq hlt) k2 (q2 i c _ k1 (aq hlt)) theorem pn (hs:bp E G S a w):∀{xs:List FV}{ys:List AV},vb S xs ys->ys.length=xs.length/\∀(i:Nat)(x:FV)(y:AV)(v:Value),xs[i]?=some x->ys[i]?=some y->aQ G w v x->cZ (yY w) w v y
 |xs,ys,.plain h=>by obtain⟨g1,g2⟩:=FV.iT h;refine⟨g1,λi x y v q1 q2 q3=>?_⟩;obtain⟨x',k1,k2⟩:=g2 i y q2;rw[q1]at k1;obtain rfl:=an k1;exact cZ.all hs (q3.fe k2)
 |[],[],.nil=>⟨rfl,λi x y v q1=>by simp at q1⟩
 |x::xs,y::ys,.cons h1 h2=>by
  have ih:=pn hs h2;refine⟨by simp[ih.1],λi x' y' v q1 q2 q3=>?_⟩;cases i with
  |zero=>simp at q1 q2;subst q1;subst q2;exact ZT hs q3 h1
  |succ i=>exact ih.2 i x' y' v (by simpa using q1) (by simpa using q2) q3 end
theorem WV (hs:bp E G S a w){vs:List Value}{xs:List FV}{ys:List AV}(hr:vs.length=xs.length/\∀(i:Nat)(c:Value)(x:FV),vs[i]?=some c->xs[i]?=some x->aQ G w c x)(h:vb S xs ys):vs.length=ys.length/\∀(i:Nat)(c:Value)(y:AV),vs[i]?=some c->ys[i]?=some y->cZ (yY w) w c y:=by
 have g:=pn hs h;refine⟨hr.1.trans g.1.symm,λi c y q1 q2=>?_⟩;have hlt:i<xs.length:=by rw[<-g.1];exact(aC.1 q2).1
 exact g.2 i _ _ _ (aq hlt) q2 (hr.2 i c _ q1 (aq hlt))
theorem wp_lend (hs:bp E G S a w){f:Operand}{args:Array Operand}{types:Array TypeId}{g:FuncId}{first captured:Array Value}{xs:List FV}{K:ah->Prop}(ho:o.op=.call ⟨.value f,args,types⟩)(hf:a.eval f=.func (.func g) first captured)(hr:(first++args.map a.eval++captured).toList.length=xs.length/\∀(i:Nat)(c:Value)(x:FV),(first++args.map a.eval++captured).toList[i]?=some c->xs[i]?=some x->aQ G w c x)(h:Zn E.C S o.dst g xs K){next:Act->World->Prop}{Q:Exit->Act->World->Prop}(hn:∀S' a' w',K S'->pJ E S' a' w'->next a' w'):CB E o a w next Q:=by obtain⟨ys,R,hl,⟨⟨fn,h1,h2,h3⟩,hc⟩,hk⟩:=h;obtain⟨r1,r2⟩:=WV hs hr hl;have hJ:=hs.J;have :=hc (yY w) w (first++args.map a.eval++captured).toList ⟨hJ.1.1,λg xs hg=>cZ.all hs (hJ.1.2 g xs hg)⟩ hJ.2 (λb o h=>h) r1 r2;refine⟨λf _=>Env.gd f,?_⟩;rw[Oper.semAt_eq _ _ _ (λc=>by rw[ho];simp),vj ho hf h1 h2 h3,Oper.uponIn_enter];refine⟨λh=>(by rw[Env.lM]at h;cases h),oz (Calls.mono this ?_)⟩;rintro e w' ⟨v,r,rfl,hR,hok,hb⟩;obtain⟨⟨x,rfl,hx⟩,hk'⟩:=hk r hR;obtain⟨WT,hk'⟩:=Gx hk';have hok:ng G.aZ w.heap.size w' v (.val x):=cZ.He (aZ:=mz (yY w) w.heap.size) hok hx;obtain⟨G',hg⟩:=vp hs (dst:=o.dst) hb hok WT;exact hn _ _ _ hk' ⟨G',hg⟩
theorem wp_evClear (hs:bp E G S a w){K:ah->Prop}{x:Operand}{t:TypeId}(ho:o.op=.call ⟨.builtin .clear,#[x],#[t]⟩)(h:MQ E.C t o.dst S (S.val x) K){next:Act->World->Prop}{Q:Exit->Act->World->Prop}(hn:∀S' a' w',K S'->pJ E S' a' w'->next a' w'):CB E o a w next Q:=by
 have GB:=aQ.val hs x;generalize S.val x=vx at h GB;unfold MQ at h;split at h;rename_i k bx T bN;split at h;rename_i e _ ht;have Ke:=(E.C.ok ht).slice;split at h;exact h.elim;rename_i j hj;split at h;rename_i xs hb hxs;obtain rfl:=aK hb;obtain⟨hkn,hxs⟩:=iU hxs;obtain⟨hone,N,hN,zs,rfl,hK⟩:=h;obtain⟨z,hz,GA⟩:=(E.C.ok hj).zeroV w;have ait:=(E.C.ok hj).len;generalize KX:a.eval x=vv at GB;cases GB with
 |tX _ _ _ _ n' c b off p1 p2 p0 p3 p4=>
  have hxl:=(hs.ck _ _ _ _ p1 p2).2.2 xs hxs;simp only at hxl;have hn':bx+N=n':=gm p4 (hN.symm.trans hxl);obtain rfl:N=n'-bx:=oO
  have hrl:=(rL (j.zero.map FV.gP) (n'-bx)).1;have Bj:gC xs (bx*j.size) (od (n'-bx) (j.zero.map FV.gP))=some (xs.take (bx*j.size)++od (n'-bx) (j.zero.map FV.gP)):=by refine Ng ?_;rw[hrl,ai,ait,hN,bD]
  have hall:iW (od (n'-bx) (j.zero.map FV.gP))=true:=by
   generalize n'-bx=q;induction q with
   |zero=>rfl
   |succ q ih=>refine oP.2 λy hy=>?_;rw[od,aW]at hy;exact hy.elim (λq=>oP.1 hone y q) (λq=>oP.1 ih y q)
  have om:aQ G w (.agg (od (n'-bx) j.zero).toArray) (.agg (od (n'-bx) (j.zero.map FV.gP))):=by rw[Hz];exact .agg _ _ (qK (G:=G) (w:=w) _).1 (qK (G:=G) (w:=w) _).2
  obtain⟨hg,hrun⟩:=yR hs hxs p1 om (by exact hall) (by exact Bj);have hoff:off=bx*j.size\/n'-bx=0:=by by_cases hlt:bx<c;exact .inl (p0.2 hlt);exact .inr oO
  have jE:∀ty,(Builtin.clear_ #[t] ty #[.slice (some ⟨b,off,none⟩) (n'-bx) (c-bx)]).run E.C.P w=.ok (.tuple #[]) (w.setCells b (bx*j.size) (od (n'-bx) j.zero)):=λty=>by rcases hoff with rfl|h0;have :=SU (P:=E.C.P) w t e ty z Ke hz b (bx*j.size) (n'-bx) (c-bx) (by rw[GA];exact hrun);rwa[GA]at this;rw[h0];simp[Builtin.clear_,run_underlying Ke];rfl
  have hr:(execOp a.eval o).run E.C.P w=.ok (.value (.tuple #[])) (w.setCells b (bx*j.size) (od (n'-bx) j.zero)):=by simp[execOp,ho,resolve,invoke,builtin,KX,jE]
  refine wp_value hr (hn _ _ _ hK ⟨G,hg.put o.dst (v:=undef) (jt _ _)⟩)
 exact h.elim;exact h.elim;exact h.elim
theorem wp_inl (hs:bp E G S a w){call:ig}{Y:oN}(cV:lZ E.C call)(hY:eN E Y){f:Operand}{args:Array Operand}{types:Array TypeId}{g:FuncId}{first captured:Array Value}{xs:List FV}{K:ah->Prop}(ho:o.op=.call ⟨.value f,args,types⟩)(hf:a.eval f=.func (.func g) first captured)(hr:(first++args.map a.eval++captured).toList.length=xs.length/\∀(i:Nat)(c:Value)(x:FV),(first++args.map a.eval++captured).toList[i]?=some c->xs[i]?=some x->aQ G w c x)(h:Pk E.C call Y S o.dst g xs K){next:Act->World->Prop}{Q:Exit->Act->World->Prop}(hn:∀S' a' w',K S'->pJ E S' a' w'->next a' w'):CB E o a w next Q:=by
 unfold Pk at h;split at h;rename_i ob bs rest hb;unfold Zj at hb;split at hb;split at hb;rename_i xX;have hb:=an hb;injection hb with e1 e2;injection e2 with e2 e3;subst e1;subst e2;subst e3;exact wp_bld hs ho hf hr xX h hn;cases hb;cases hb;rename_i hnb;rcases h with h|(⟨hx,h⟩|h)|h;obtain⟨⟨fn,h1,h2,h3⟩,hc⟩:=cV E rfl Y g xs _ G S a w _ hs (hY.push a) h hr.1 hr.2;refine⟨λf _=>Env.gd f,?_⟩;rw[Oper.semAt_eq _ _ _ (λc=>by rw[ho];simp),vj ho hf h1 h2 h3,Oper.uponIn_enter];refine⟨λh=>(by rw[Env.lM]at h;cases h),PZ (CallsIn.mono hc ?_)⟩;rintro e w' ⟨v,x,G',S',rfl,hK,hs',hv⟩;unfold ah5 at hK;split at hK;obtain⟨T,hT,hK⟩:=hK;exact hn _ _ _ hK (pJ.weaken ⟨G',hs'.put o.dst hv⟩ hT);exact hn _ _ _ hK ⟨G',hs'.put o.dst hv⟩;clear hnb;split at h;rename_i x;generalize hargs:(first++args.map a.eval++captured)=vs at hr;obtain⟨vs⟩:=vs;match vs,hr with
  |[v],hr=>have hv:=hr.2 0 v x rfl rfl;refine wp_value (v:=v) (w':=w) ?_ (hn _ _ _ h ⟨G,hs.put o.dst hv⟩);have :=hx v w;simp[execOp,ho,resolve,hf,Deferred.ofValue,invoke,hargs,this]
  |[],hr=>simp at hr
  |_::_::_,hr=>simp at hr
 exact h.elim;exact wp_lend hs ho hf hr h hn;exact wp_obj hs ho hf hr h hn
theorem wp_yield (hs:bp E G S a w){Y:oN}(hY:eN E Y){f:Operand}{args:Array Operand}{types:Array TypeId}{l:Nat}{K:ah->Prop}(ho:o.op=.call ⟨.value f,args,types⟩)(hf:S.val f=.mZ l)(h:Y l (args.toList.map S.val) (λv S'=>K (S'.put o.dst v)) S){next:Act->World->Prop}{Q:Exit->Act->World->Prop}(hn:∀S' a' w',K S'->pJ E S' a' w'->next a' w'):CB E o a w next Q:=by
 have hfv:=aQ.val hs f;rw[hf]at hfv;generalize KX:a.eval f=v at hfv;cases hfv with
 |mZ _ k hk=>
  have hv:=tu hs args.toList;have hY':=hY E.mu [] [] E.fixed G S a w l k;simp only[jU,bg]at hY';have :=hY' _ _ _ hs hk h hv.1 hv.2;obtain⟨fn,tmps,assign,body,h1,h2⟩:=this;refine⟨λf _=>Env.gd f,?_⟩;have hrun:(execOp a.eval o).run E.C.P w=.ok (.round k fn tmps assign body) w:=by
   have he:(args.toList.map a.eval).toArray=args.map a.eval:=by apply iH.1;rw[nJ]
   rw[he]at h1;simp[execOp,ho,resolve,KX,Deferred.ofValue,invoke,h1]
  rw[Oper.semAt_eq _ _ _ (λc=>by rw[ho];simp),hrun,Oper.uponIn_round];refine⟨λh=>(by rw[Env.lM]at h;cases h),yQ (RoundIn.mono h2 ?_)⟩;rintro e w' ⟨v,x,G',S',rfl,hK,hs',hv⟩;exact hn _ _ _ hK ⟨G',hs'.put o.dst hv⟩
theorem wp_buildSlice (hs:bp E G S a w){t e:TypeId}{len:Nat}{parts:Array (Nat×Operand)}{d0:Nat}{K:ah->Prop}{sa sb:Nat}{sz:List Value}(ho:o.op=.buildSlice t len parts)(HC:o.dst=some d0)(ht:bP E.C.js t=some ⟨sa,sb,.slice e,sz⟩)(h:lT E.C S t len parts.toList λv=>match v with
 |.full xs=>match bP E.C.js e with|none=>False|some j=>wj S d0 λnm=>K ((S.kill nm).put (some d0) (.eU nm e j.size xs))
 |_=>False){next:Act->World->Prop}{Q:Exit->Act->World->Prop}(hn:∀S' a' w',K S'->pJ E S' a' w'->next a' w'):CB E o a w next Q:=by obtain⟨xs,us,e',j,⟨_,_,_,ht'⟩,hj,hK,hrun,hlen,hr⟩:=xW hs ho h;rw[ht]at ht';have :=an ht';injection this with _ _ q _;injection q with q;subst q;simp only[hj,mF]at hK;generalize hd:S.off+d0=d at hK;have Gk:Below w.heap.size w (w.alloc (.cells us e)):=(Below.refl _ _).alloc (ay _) _;have hsz:(w.alloc (.cells us e)).heap.size=w.heap.size+1:=World.size_alloc w _;have hg:=((hs.MV Gk λb o=>o<xs.length*j.size).kill d).Ab (t:=d) (B:=w.heap.size) (s:=xs.length*j.size) (e:=xs.length*j.size) (T:=e) (sZ _ d) (by rw[hsz];omega) hs.kept.size ⟨_,_,World.alloc_heap_new w _,trivial⟩ (λo h=>by simp only[aV.free]at h;split at h;cases h;have :=(hs.iu o _ h).1;omega) (λt' r h=>by simp only[aV.free]at h;split at h;cases h;have :=(hs.fI t' _ r.1 r.2.1 r.2.2 h).1;omega) (λo h=>by simp only[aV.free]at h;split at h;cases h;have :=(hs.iZ.row o _ h).2.1;omega) (λi hi hi'=>oO);refine wp_value hrun ?_;rw[HC];exact hn _ _ _ hK ⟨_,hg.put (some d0) (x:=.eU d e j.size xs) (.eU d e j.size xs (some ⟨w.heap.size,0,none⟩) xs.length hr (.inr ⟨w.heap.size,0,rfl,hlen,by simp⟩))⟩
theorem wp_bytes (hs:bp E G S a w){src dst:TypeId}{x:Operand}{d0:Nat}{K:ah->Prop}{s:List UInt8}(ho:o.op=.convert src dst x)(HC:o.dst=some d0)(hx:S.val x=.p (.str s))(h:Eb E.C S src dst d0 s K){next:Act->World->Prop}{Q:Exit->Act->World->Prop}(hn:∀S' a' w',K S'->pJ E S' a' w'->next a' w'):CB E o a w next Q:=by
 unfold Eb at h;split at h
 ·rename_i e _ h1 h2;split at h
  ·rename_i by0 z0 he;rw[mF]at h;have GB:=aQ.val hs x;rw[hx]at GB;have ex:=GB.jD;have hu1:=(E.C.ok h1).str;have hu2:=(E.C.ok h2).slice;have hu3:=(E.C.ok he).int;have hrun:(execOp a.eval o).run E.C.P w=.ok (.value (.slice (some ⟨w.heap.size,0,none⟩) (⟨s.toArray⟩:ByteArray).size (grownCap w (⟨s.toArray⟩:ByteArray).size 0 e))) (Lib.bytesWorld w e ⟨s.toArray⟩):=by simp[execOp,ho,ex,Lib.run_convert_string_bytes w src dst e ⟨s.toArray⟩ hu1 hu2 hu3]
   have hsz:(⟨s.toArray⟩:ByteArray).size=s.length:=by simp[ByteArray.size]
   rw[hsz]at hrun;have hcap:=grownCap_ge w s.length 0 e;generalize hc:grownCap w s.length 0 e=c at hrun hcap;have hb:Below w.heap.size w (Lib.bytesWorld w e ⟨s.toArray⟩):=⟨rfl,rfl,rfl,by rw[Lib.bytesWorld_size];omega,λk hk=>Lib.bytesWorld_at_old w e _ k hk⟩;have hcs:(Lib.bytesCells w e ⟨s.toArray⟩).size=c:=by simp[Lib.bytesCells,hc,hsz];omega
   have hnew:=Lib.bytesWorld_at_new w e ⟨s.toArray⟩;have hsize:=Lib.bytesWorld_size w e ⟨s.toArray⟩;have om:cZ (λb' o=>G.aZ b' o\/(w.heap.size<=b'/\¬(b'=w.heap.size/\0+(s.map λb=>[AV.int .u8 (b.toNat:Int)]).length*1<=o/\o<0+c*1))) (Lib.bytesWorld w e ⟨s.toArray⟩) (.slice (some ⟨w.heap.size,0,none⟩) (s.map λb=>[AV.int .u8 (b.toNat:Int)]).length c) (.sl (s.map λb=>[AV.int .u8 (b.toNat:Int)])):=by
    refine .sl w.heap.size 0 c 1 _ (λi j=>.int .u8 ((s.getD i 0).toNat:Int)) (λi ys hi=>?_) (λi ys j y hi hj=>?_) (λi ys j y hi hj=>?_) (λi ys j y hi hj=>?_) (λi ys j y hi hj=>?_) (by simpa using hcap);rw[aM]at hi;obtain⟨b,-,rfl⟩:=pU.1 hi;rfl;all_goals
     rw[aM]at hi;obtain⟨b,hb,rfl⟩:=pU.1 hi;have hlt:=(aC.1 hb).1;obtain rfl:j=0:=by
      cases j with
      |zero=>rfl
      |succ j=>simp at hj
     simp at hj;subst hj
    rfl;have :=Lib.bytesWorld_cell w e ⟨s.toArray⟩ i (by rw[hsz];exact hlt);simpa using this;refine .inr ⟨ay _,?_⟩;simp;omega;simp[List.getD,hb];exact .int _ _
   obtain⟨G',hg⟩:=vp hs (dst:=o.dst) (r:=.fresh e 1 (s.map λb=>[AV.int .u8 (b.toNat:Int)])) (v:=.slice (some ⟨w.heap.size,0,none⟩) (s.map λb=>[AV.int .u8 (b.toNat:Int)]).length c) hb ⟨some ⟨w.heap.size,0,none⟩,c,rfl,.inr ⟨w.heap.size,0,_,_,rfl,ay _,by rw[hsize];omega,λys hy=>by obtain⟨b,-,rfl⟩:=aA.1 hy;rfl,hnew,λi hi hi'=>by
    refine⟨?_,?_⟩;have hlt:i<(Lib.bytesCells w e ⟨s.toArray⟩).size:=by rw[hcs];omega
    exact⟨_,by simp[World.cell?,hnew,hlt];rfl⟩;have hlt:i<(Lib.bytesCells w e ⟨s.toArray⟩).size:=by rw[hcs];omega
    simp[World.frozen?,hnew];omega,om⟩⟩;refine wp_value (by rw[hrun,show s.length=(s.map λb=>[AV.int .u8 (b.toNat:Int)]).length from(ai _).symm]) (hn _ _ _ ?_ ⟨G',hg⟩);rw[HC];exact h
  exact h.elim
 exact h.elim
theorem Qa (hs:bp E G S a w){t:TypeId}{x h m:Operand}{K:FV->Prop}(ho:o.op=.slice t x none (some h) (some m))(hk:SG E.C t (S.val x) (S.val h) (S.val m) K):Yields E G a w o K:=by have hx:=aQ.val hs x;have hh:=aQ.val hs h;have hm:=aQ.val hs m;generalize S.val x=vx at hk hx;generalize S.val h=vh at hk hh;generalize S.val m=vm at hk hm;unfold SG at hk;split at hk;rename_i e _ ht;split at hk;exact hk.elim;rename_i j hj;split at hk;rename_i xs kh a0 km b0 hxs;obtain⟨rfl,rfl,hk⟩:=hk;obtain⟨ad,c,hv,-,-⟩:=(hx.elems hxs).kS;have e1:=hh.fJ;have e2:=hm.fJ;have hok:=E.C.ok ht;have Ke:=hok.slice;have hjs:=(E.C.ok hj).sizeOf w;refine Yields.same (v:=.slice ad 0 0) ?_ hk (.full [] ad (.WE _ _));simp[execOp,ho,hv,e1,e2,Instr.slice,Instr.sliceAt,run_underlying Ke,Instr.sliceBounds,Instr.sliceBound,asIntOf,hjs];exact hk.elim;exact hk.elim
theorem wp_evAppN (hs:bp E G S a w){d:Nat}{K:ah->Prop}{x y:Operand}{t u:TypeId}(ho:o.op=.call ⟨.builtin .append,#[x,y],#[t,u]⟩)(hd:o.dst=some d)(hx0:S.val x=.full [])(h:MO E.C t u d S (S.val y) K){next:Act->World->Prop}{Q:Exit->Act->World->Prop}(hn:∀S' a' w',K S'->pJ E S' a' w'->next a' w'):CB E o a w next Q:=by
 have GB:=aQ.val hs x;have hy:=aQ.val hs y;rw[hx0]at GB;generalize S.val y=vy at h hy;unfold MO at h;split at h;rename_i e _ ui ht hui;have Ke:=(E.C.ok ht).slice;obtain⟨dd,ZN,hsh⟩:=(E.C.ok hui).yL;split at h;exact h.elim;rename_i yU;have hdk:∀k,dd≠.int k:=λk e=>by rw[<-hsh,e]at yU;simp[shapeOf,Shape.Fj]at yU
 split at h;exact h.elim;rename_i j hj;have hok:=E.C.ok hj;split at h;rename_i ys hys hb0 hp0;have hb0:=bt hb0;have p4:0<j.size:=wI (bt hp0);obtain⟨hne,yT,hbd,h⟩:=h;rw[lU]at h;obtain⟨hdn,zs,rfl,hK⟩:=h;have hdn:=bt hdn;have hm0:0<ys.length:=je.2 hne;obtain⟨news,n1,n2,n3⟩:=hy.items (P:=E.C.P) (e:=j.size) hys yT;generalize PO:a.eval y=vy at hy n2 n3;generalize Nh:a.eval x=vv at GB;cases GB with
 |full _ ad hr0=>
  have nl:news.length=ys.length*j.size:=n1.len;have ZO:(aF ys.flatten).length=ys.length*j.size:=by rw[iP];exact gF yT
  have nr:∀(i:Nat)(z:FV),(aF ys.flatten)[i]?=some z->∃u,news[i]?=some u/\aQ G w u z:=λi z hz=>by
   rw[tA]at hz;have hi:i<ys.length*j.size:=by
    rw[<-gF yT];cases hq:ys.flatten[i]?with
    |none=>rw[hq]at hz;cases hz
    |some q=>exact(aC.1 hq).1
   have hq:i/j.size<ys.length:=CE (by rw[sE];exact hi);have hr:i%j.size<(ys[i/j.size]).length:=by rw[yT _ (aL hq)];exact jX _ p4
   have hii:i/j.size*j.size+i%j.size=i:=Nat.div_add_mod' i j.size;have h1:=aq hq;have h2:=aq hr;have h3:=lP yT h1 h2;rw[hii]at h3;rw[h3]at hz;obtain rfl:=an hz;obtain⟨u,e1,e2,-⟩:=n1.at_ _ _ _ _ h1 h2;rw[hii]at e1;exact⟨u,e1,.p _ _ e2⟩
  have of':∀w',(∀b o,w'.cell? ⟨b,o,none⟩=w.cell? ⟨b,o,none⟩)->(Builtin.firstCells j.size 0 (.slice ad 0 0)).run E.C.P w'=.ok ([]:List Value).toArray w':=λw' _=>by cases ad<;>simp[Builtin.firstCells,loadCells,loadCellsFrom]
  obtain⟨rest,z,hz,qB,hrun⟩:=iM (P:=E.C.P) (w:=w) (ty:=o.type) (base:=ad) (n:=0) (c:=0) (news:=news) (olds:=[]) Ke ZN hdk hok n2 n3 of' oO (by rw[cz];exact hbd) hb0;have hcap:0+ys.length<=grownCap w (0+ys.length) 0 e:=grownCap_ge w _ _ _;generalize hcg:grownCap w (0+ys.length) 0 e=cap at*;have hrl:rest.size=(cap-(0+ys.length))*j.size:=by rw[qB,size_zeroCells,hz]
  have jE:(news++rest.toList).length=cap*j.size:=by simp only[au,nl,jf,hrl,<-bD];rw[show ys.length+(cap-(0+ys.length))=cap from oO]
  generalize hnm:S.off+d=nm at hK hdn;obtain⟨G',g1,g2,g3⟩:=Ac hs.drew nm hdn (zs:=aF ys.flatten) (cells:=news++rest.toList) (s:=ys.length*j.size) (cap:=cap*j.size) (e:=e) ZO jE (λi z hz=>by have hk:∀{v:Value}{z:FV},aQ G w v z->aQ G {w with drawn:=w.drawn+1} v z:=λh=>h.keep (λ_ _ h=>h) (λ_ _ _ _ h=>h) (λ_ _ _ _ h=>h) (λ_ _ h=>h) (λ_ _ h=>h);obtain⟨u,h2,h3⟩:=nr i z hz;have YY:=(aC.1 h2).1;exact⟨u,by rw[cm YY];exact h2,hk h3⟩);rw[iX]at g1;have hW:w.drew.alloc (.cells (([]:List Value).toArray++news.toArray++rest) e)=({w with drawn:=w.drawn+1}:World).alloc (.cells (news++rest.toList).toArray e):=by
   have :([]:List Value).toArray++news.toArray++rest=(news++rest.toList).toArray:=by apply iH.1;simp
   rw[this];rfl
  rw[hW]at hrun;refine wp_value (v:=.slice (some ⟨w.heap.size,0,none⟩) (0+ys.length) cap) (w':=({w with drawn:=w.drawn+1}:World).alloc (.cells (news++rest.toList).toArray e)) ?_ (hn _ _ _ hK ⟨G',?_⟩);simp[execOp,ho,resolve,invoke,builtin,Nh,PO]at hrun⊢;rw[hrun];rfl;rw[hd];exact g1.put (some d) (v:=.slice (some ⟨w.heap.size,0,none⟩) (0+ys.length) cap) (x:=.fc nm e j.size) (.fc nm e j.size (0+ys.length) cap w.heap.size g2 (by rw[cz];exact g3) hcap p4)
 exact h.elim;exact h.elim
theorem tC {call:ig}{Y:oN}(cV:lZ E.C call)(hY:eN E Y)(hs:bp E G S a w){K:ah->Prop}(h:Hi E.C call Y o K S){next:Act->World->Prop}{Q:Exit->Act->World->Prop}(hn:∀S' a' w',K S'->pJ E S' a' w'->next a' w'):CB E o a w next Q:=by
 have Tb:eB E.C S o.op (λv=>K (S.put o.dst v))->CB E o a w next Q:=λh=>Fo hs h λx v G' w' hk hs' hv=>hn _ _ _ hk ⟨G',hs'.put o.dst hv⟩;unfold Hi at h;split at h;rename_i fn first captured hop;obtain⟨fr,h⟩:=h;obtain⟨S',h,G',hs'⟩:=yW fr h ⟨G,hs⟩;simp only[jN]at h;exact wp_of_yields hs' (xV (K:=λx=>K (S'.put o.dst x)) hs' hop h) λx v G' w' hk hs' hv=>hn _ _ _ hk ⟨G',hs'.put o.dst hv⟩;rename_i t len parts hop;split at h;rename_i d _ _ e _ hd ht;split at h;exact wp_openSlice hs hop hd ht h hn;exact wp_buildSlice hs hop hd ht h hn;exact h.elim;rename_i t hop;split at h;rename_i d i hd hi;obtain⟨z,hz,GA⟩:=(E.C.ok hi).zeroV w;have SP:=λhdn=>CC hs d hdn i.zero (i.zero.map FV.gP) t (qK _);have hrun:(execOp a.eval o).run E.C.P w=.ok (.value (.pointer (some ⟨w.heap.size,0,none⟩))) (w.alloc (.cells i.zero.toArray t)):=by
  have :z.cells=i.zero.toArray:=by rw[<-GA]
  simp[execOp,hop,Instr.alloc,hz,newVar,newRow,this]
 split at h;rename_i hbt hz0;obtain rfl:=aK hbt;rw[Hg]at h;obtain⟨hdn,h⟩:=h;obtain⟨G',hg,hgl,hgr⟩:=SP (bt hdn);refine wp_value hrun (hn _ _ _ h ⟨G',?_⟩);rw[hd];have hw:(w.alloc (.cells i.zero.toArray E.C.bT)).heap[w.heap.size]?=some (.cells #[.pointer none,.slice none 0 0] E.C.bT (0,0)):=by rw[World.alloc_heap_new,hz0]
 exact hg.ail (rest:=S.aJ) rfl hgl hgr.1 hgr.2 hw;rw[jN,wm]at h;obtain⟨hdn,h⟩:=h;obtain⟨G',hg,hgl,hgr⟩:=SP (bt hdn);refine wp_value hrun (hn _ _ _ h ⟨G',hd▸hg⟩);exact h.elim;rename_i t x hop;split at h;rename_i d i hd hi;split at h;rename_i hl;split at h;rename_i h1;rw[jN,wm]at h;obtain⟨hdn,h⟩:=h;have hx:=aQ.val hs x;obtain⟨KV,-⟩:=qJ hx h1;obtain⟨G',hg,-,-⟩:=CC hs d (bt hdn) (a.eval x).cells.toList (S.val x).cells t KV;refine wp_value (v:=.pointer (some ⟨w.heap.size,0,none⟩)) (w':=w.alloc (.cells (a.eval x).cells.toList.toArray t)) ?_ (hn _ _ _ h ⟨G',hd▸hg⟩);simp[execOp,hop,Instr.box,newVar,newRow];exact h.elim;exact h.elim;exact h.elim;rename_i t ad x hop;split at h;rename_i i ob off hi xX;split at h;exact h.elim;rename_i cells hcells;split at h;rename_i hl;split at h;rename_i h1;split at h;rename_i cs hcs;rw[jN]at h;have hx:=aQ.val hs x;have had:=aQ.val hs ad;rw[xX]at had;obtain⟨b,hv,gb⟩:=had.oG;obtain⟨hg,hrun⟩:=yR hs hcells gb hx h1 hcs;obtain⟨KV,-⟩:=qJ hx h1;have hsz:(a.eval x).cells.size=i.size:=by rw[<-aK hl,<-KV.1];simp
 have hr:(execOp a.eval o).run E.C.P w=.ok .skip (w.setCells b off (a.eval x).cells.toList):=by simp[execOp,hop,hv,Instr.storeAt,Instr.sureAddr,storeVar,(E.C.ok hi).sizeOf,hsz,hrun]
 refine⟨λf _=>Env.gd f,?_⟩;rw[Oper.semAt_eq _ _ _ (λc=>by rw[hop];simp),hr];exact hn _ _ _ h ⟨G,hg.put o.dst (v:=undef) (jt _ _)⟩;exact h.elim;exact h.elim;exact h.elim;rename_i i ob base off hi xX;split at h;exact h.elim;rename_i cells hcells;split at h;rename_i hl;split at h;rename_i h1;obtain⟨A,ys,B,hmid,hA,h⟩:=h;split at h;rename_i zs hzs;rw[jN]at h;obtain⟨cs,rfl,h⟩:=h;have hx:=aQ.val hs x;have had:=aQ.val hs ad;rw[xX]at had;obtain⟨b,hv,gb⟩:=had.yM.oG;have hcs:gC cells (base+off) (S.val x).cells=some (A++(zs++B)):=by rw[hmid];exact CG hA hzs
 obtain⟨hg,hrun⟩:=yR hs hcells gb hx h1 hcs;obtain⟨KV,-⟩:=qJ hx h1;have hsz:(a.eval x).cells.size=i.size:=by rw[<-aK hl,<-KV.1];simp
 have hr:(execOp a.eval o).run E.C.P w=.ok .skip (w.setCells b (base+off) (a.eval x).cells.toList):=by simp[execOp,hop,hv,Instr.storeAt,Instr.sureAddr,storeVar,(E.C.ok hi).sizeOf,hsz,hrun]
 refine⟨λf _=>Env.gd f,?_⟩;rw[Oper.semAt_eq _ _ _ (λc=>by rw[hop];simp),hr];exact hn _ _ _ h ⟨G,hg.put o.dst (v:=undef) (jt _ _)⟩;exact h.elim;exact h.elim;exact h.elim;exact h.elim;rename_i t hop;split at h;rename_i d hd;exact wp_makeMap hs hop hd h hn;exact h.elim;rename_i t len cap hop;split at h;rename_i d hd;exact wp_make hs hop hd h hn;exact h.elim;rename_i t m k x hop;exact wp_upd hs (.inl hop) h hn;rename_i t m k x hop;exact wp_upd hs (.inr hop) h hn;rename_i t x lo hi mx hop;unfold Pm at h;split at h;rename_i k T bN hx;split at h;exact wp_evCutO hs hop hx h hn;exact wp_evTailO hs hop hx h hn;exact h.elim;split at h;exact wp_of_yields hs (Qa (K:=λv=>K (S.put o.dst v)) hs hop h) λx v G' w' hk hs' hv=>hn _ _ _ hk ⟨G',hs'.put o.dst hv⟩;exact Tb (by rw[hop];exact h);rename_i src ty x hop;unfold UX at h;split at h;rename_i d _ hd;split at h;rename_i hx;exact wp_bytes hs hop hd hx h hn;exact h.elim;exact Tb (by rw[hop];exact h)
 ·rename_i c hop;obtain⟨callee,args,types⟩:=c;simp only at h;split at h;split at h;rename_i vx vy t u d hargs HG hd;obtain⟨args⟩:=args;obtain⟨types⟩:=types;simp only at hargs HG;subst HG;cases args with
  |nil=>simp at hargs
  |cons x args=>
   cases args with
   |nil=>simp at hargs
   |cons y args=>
    cases args with
    |cons z args=>simp at hargs
    |nil=>simp only[cE,iG,jV,and_true]at hargs;obtain⟨rfl,rfl⟩:=hargs;split at h;rename_i o2 T2 e2 hy2;exact wp_evAppO hs hop hd hy2 h hn;unfold SF at h;split at h;split at h;rename_i hx0;exact wp_evAppN hs hop hd hx0 h hn;exact wp_evAppend hs hop hd h hn;exact wp_evAppend hs hop hd h hn
  exact h.elim;split at h;rename_i vx t hargs HG;obtain⟨args⟩:=args;obtain⟨types⟩:=types;simp only at hargs HG;subst HG;match args,hargs with|[x],hargs=>simp only[cE,iG,jV,and_true]at hargs;rw[<-hargs]at h;exact wp_evClear hs hop h hn
  exact h.elim;exact wp_of_yields hs (yO hs hop h) λx v G' w' hk hs' hv=>hn _ _ _ hk ⟨G',hs'.put o.dst hv⟩
  ·rename_i f;have hfv:=aQ.val hs f;unfold Zo at h;have byC:∀{g:FuncId}{first captured:Array Value}{xs:List AV},a.eval f=.func (.func g) first captured->((first++args.map a.eval++captured).toList.length=xs.length/\∀(i:Nat)(c:Value)(x:AV),(first++args.map a.eval++captured).toList[i]?=some c->xs[i]?=some x->cZ G.aZ w c x)->(∃R,aj E.C g xs R/\∀r,R r->Pg S o.dst r K)->CB E o a w next Q:=λhv hr ⟨R,hc,hk⟩=>wp_call hs hop hv hr hc λr v w' hR hb hok=>by obtain⟨WT,hk'⟩:=Gx (hk r hR);obtain⟨G',hg⟩:=vp hs (dst:=o.dst) hb hok WT;exact hn _ _ _ hk' ⟨G',hg⟩
   split at h;rename_i g first captured hf;rw[hf]at hfv;obtain⟨fs,cs,hv,h1,h2⟩:=SS hfv;split at h;have h3:=lN (lN (yX (G:=G) h1 rfl) (tu hs args.toList)) (yX (G:=G) h2 rfl);exact wp_inl hs cV hY (first:=fs.toArray) (captured:=cs.toArray) hop hv (by simpa using h3) h hn;split at h;rename_i xs hxs;have h3:=wE (wE h1 (mI (tu hs args.toList) hxs)) h2;exact byC (first:=fs.toArray) (captured:=cs.toArray) hv (by simpa using h3) h;have h3:=lN (lN (yX (G:=G) h1 rfl) (tu hs args.toList)) (yX (G:=G) h2 rfl);exact wp_inl hs cV hY (first:=fs.toArray) (captured:=cs.toArray) hop hv (by simpa using h3) h hn;rename_i g first captured hf;rw[hf]at hfv;obtain⟨fs,cs,hv,h1,h2⟩:=Nb hfv;have h3:=lN (lN h1 (tu hs args.toList)) h2;split at h;rename_i xs hxs;exact byC (first:=fs.toArray) (captured:=cs.toArray) hv (by simpa using mI h3 hxs) h;exact wp_inl hs cV hY (first:=fs.toArray) (captured:=cs.toArray) hop hv (by simpa using h3) h hn;rename_i l hf;exact wp_yield hs hY hop hf h hn;exact h.elim
  exact h.elim
 exact Tb h
theorem sH (hs:bp E G S a w){ops:Array Oper}{j d:Nat}{b:Bool}(hd:(ops[j]?).bind (·.dst)=some d)(hg:S.get d=.p (.bool b)):yielded ops a.tmps j=some b:=by
 have h:=aQ.get hs d;rw[hg]at h;have h:=h.nt;unfold yielded;rw[hd];have hlt:d<a.tmps.size:=by rw[hs.size];unfold ah.get at hg;split at hg;rename_i hb;simpa using hb;cases hg
 simp only[nL];rw[wM hlt];simp only[Array.getD,hlt,dite_true]at h;change a.tmps[d]=_ at h;rw[h]
theorem rz (hs:bp E G S a w){ops:Array Oper}{j d:Nat}(hd:(ops[j]?).bind (·.dst)=some d)(hg:S.get d=.p (.eY [])):yielded ops a.tmps j=none:=by have h:=aQ.get hs d;rw[hg]at h;have h:=h.WH;unfold yielded;rw[hd];simp only[nL];by_cases hlt:d<a.tmps.size;rw[wM hlt];simp only[Array.getD,hlt,dite_true]at h;change a.tmps[d]=_ at h;rw[h];rfl;rw[CM oO]
theorem Fs {call:ig}{Y:oN}(cV:lZ E.C call)(hY:eN E Y){ops:Array Oper}{K:ah->Prop}{Q:Exit->Act->World->Prop}(hQ:∀S' a' w',K S'->pJ E S' a' w'->Q .normal a' w'):∀(l:List Oper)(S:ah)(a:Act)(w:World),oZ E.C call Y ops l K S->pJ E S a w->wpListIn E.kG 0 E.C.P ops Q l a w:=by
 intro l;induction l with
 |nil=>intro S a w h hs;exact wpListIn_nil (hQ _ _ _ h hs)
 |cons o l ih=>intro S a w h hs;obtain⟨G,hs⟩:=hs;simp only[oZ]at h;refine wpListIn_step λK' tV=>?_;split at h;rename_i hg;rw[af (by simp[Region.wanted,hg])];exact tC cV hY hs h λS' a' w' hk hs'=>tV _ _ (ih _ _ _ hk hs');rename_i j want hg;split at h;exact h.elim;rename_i d hd;split at h;rename_i b hb;have hy:=sH hs hd hb;split at h;rename_i DV;rw[ox]at DV;rw[af (by simp[Region.wanted,hg,hy,beq_iff_eq.1 DV])];exact tC cV hY hs h λS' a' w' hk hs'=>tV _ _ (ih _ _ _ hk hs');rename_i DV;rw[ox]at DV;rw[aa (by simp[Region.wanted,hg,hy];exact wN.1 DV)];exact⟨λf _=>Env.gd f,tV _ _ (ih _ _ _ h ⟨G,hs.put o.dst (jt G w)⟩)⟩;rename_i hb;have hy:=rz hs hd hb;rw[aa (by simp[Region.wanted,hg,hy])];exact⟨λf _=>Env.gd f,tV _ _ (ih _ _ _ h ⟨G,hs.put o.dst (jt G w)⟩)⟩;exact h.elim
structure Off (ds:List Nat)(S S':ah):Prop where
 n:S'.n=S.n
 off:S'.off=S.off
 bF:S'.bF=S.bF
 bV:S'.bV=S.bV
 cw:S'.cw=S.cw
 aJ:S'.aJ=S.aJ
 maps:S'.maps=S.maps
 iF:S'.iF=S.iF
 tmps:∀i,iA i ds=false->S'.tmps i=S.tmps i
theorem Qb {i:Nat}{ds:List Nat}:iA i ds=true↔i∈ds:=by
 induction ds with
 |nil=>simp[iA]
 |cons d ds ih=>
  simp only[iA];by_cases h:i=d;subst h;simp;have :Nat.beq i d=false:=by cases hb:Nat.beq i d;rfl;exact absurd (aK hb) h
  rw[this];simp[ih,h]
theorem Off.put {ds:List Nat}{S S':ah}(h:Off ds S S'){dst:Option Nat}(hd:∀d,dst=some d->d∈ds)(v:FV):Off ds S (S'.put dst v):=by
 cases dst with
 |none=>exact h
 |some d=>
  refine⟨h.n,h.off,h.bF,h.bV,h.cw,h.aJ,h.maps,h.iF,λi hi=>?_⟩;simp only[ah.put];have hne:i≠d:=λe=>by have :=Qb.2 (hd d rfl);rw[<-e,hi]at this;cases this
  have :Nat.beq i d=false:=by cases hb:Nat.beq i d;rfl;exact absurd (aK hb) hne
  rw[this];exact h.tmps i hi
theorem Vn {C:Ctx}{ops:Array Oper}{ds:List Nat}{S0:ah}:∀(l:List Oper)(K:ah->Prop)(S:ah),(∀o,o∈l->∀d,o.dst=some d->d∈ds)->Off ds S0 S->JX C ops l K S->JX C ops l (λS'=>K S'/\Off ds S0 S') S:=by
 intro l;induction l with
 |nil=>intro K S _ ho h;exact⟨h,ho⟩
 |cons o l ih=>
  intro K S hl ho h;have hd:=hl o gq;have hl':=λo' ho'=>hl o' (bh _ ho');simp only[JX]at h⊢;split at h;rename_i hg;obtain⟨v,h1,h2⟩:=h;try simp only[hg]
  exact⟨v,h1,ih _ _ hl' (ho.put hd v) h2⟩;rename_i j want hg;try simp only[hg]
  split at h;exact h.elim;rename_i d hdj;try simp only[hdj]
  split at h;rename_i b hb;first|rw[hb]|skip
  cases hsb:Hj b want with
  |true=>simp only[hsb]at h⊢;obtain⟨v,h1,h2⟩:=h;exact⟨v,h1,ih _ _ hl' (ho.put hd v) h2⟩
  |false=>simp only[hsb]at h⊢;exact ih _ _ hl' (ho.put hd _) h
  rename_i hb;first|rw[hb]|skip
  exact ih _ _ hl' (ho.put hd _) h;exact h.elim
theorem En {K:FV->Prop}(hs:bp E G S a w){v:FV}(h:eB E.C S o.op λu=>u=v){next:Act->World->Prop}{Q:Exit->Act->World->Prop}(hn:∀a' w',pJ E (S.put o.dst v) a' w'->next a' w'):CB E o a w next Q:=Fo hs h λx u G' w' hk hs' hv=>hn _ _ ⟨G',by subst hk;exact hs'.put o.dst hv⟩
theorem WW {ops:Array Oper}{K:ah->Prop}{Q:Exit->Act->World->Prop}(hQ:∀S' a' w',K S'->pJ E S' a' w'->Q .normal a' w'):∀(l:List Oper)(S:ah)(a:Act)(w:World),JX E.C ops l K S->pJ E S a w->wpListIn E.kG 0 E.C.P ops Q l a w:=by
 intro l;induction l with
 |nil=>intro S a w h hs;exact wpListIn_nil (hQ _ _ _ h hs)
 |cons o l ih=>intro S a w h hs;obtain⟨G,hs⟩:=hs;simp only[JX]at h;refine wpListIn_step λK' tV=>?_;split at h;rename_i hg;rw[af (by simp[Region.wanted,hg])];obtain⟨v,h1,h2⟩:=h;exact En (K:=λ_=>True) hs h1 λa' w' hs'=>tV _ _ (ih _ _ _ h2 hs');rename_i j want hg;split at h;exact h.elim;rename_i d hd;split at h;rename_i b hb;have hy:=sH hs hd hb;split at h;rename_i DV;rw[ox]at DV;rw[af (by simp[Region.wanted,hg,hy,beq_iff_eq.1 DV])];obtain⟨v,h1,h2⟩:=h;exact En (K:=λ_=>True) hs h1 λa' w' hs'=>tV _ _ (ih _ _ _ h2 hs');rename_i DV;rw[ox]at DV;rw[aa (by simp[Region.wanted,hg,hy];exact wN.1 DV)];exact⟨λf _=>Env.gd f,tV _ _ (ih _ _ _ h ⟨G,hs.put o.dst (jt G w)⟩)⟩;rename_i hb;have hy:=rz hs hd hb;rw[aa (by simp[Region.wanted,hg,hy])];exact⟨λf _=>Env.gd f,tV _ _ (ih _ _ _ h ⟨G,hs.put o.dst (jt G w)⟩)⟩;exact h.elim
theorem aR.refl (x:FV):aR x x:=λ_ _ _ h=>h
theorem aR.dr (x:FV):aR x .dr:=λ_ _ _ _=>.dr _
theorem Qc {K:ah->Prop}{S':ah}:∀(rs:List Nat)(T:ah)(φ:List FV->Prop),Ec K T rs φ->φ (getAll S' rs)->bL S' T->∃T',K T'/\bL S' T':=by
 intro rs;induction rs with
 |nil=>intro T φ h hφ hw;exact⟨T,h.out hφ,hw⟩
 |cons r rs ih=>intro T φ h hφ hw;refine ih _ _ (h.out (S'.get r)) hφ ⟨hw.n,hw.off,hw.bV,hw.cw,hw.bF,λi=>?_,hw.aJ,hw.maps,hw.iF⟩;simp only[ah.put];split;rename_i hb;obtain rfl:=aK hb;unfold ah.get;split;exact aR.refl _;exact aR.dr _;exact hw.tmps i
theorem Off.weaken {ds:List Nat}{S S':ah}(h:Off ds S S'):bL S' (S.uI ds):=by
 refine⟨h.n.symm,h.off.symm,h.bV.symm,λo bs q=>⟨by rw[h.cw];exact q,λq2=>by show Qv.getObj S.aJ o=none;rw[<-h.aJ];exact q2⟩,⟨by show S.bF.length=_;rw[h.bF],λi f f' h1 h2=>by have h2':S.bF[i]?=some f':=h2;rw[h.bF,h2']at h1;obtain rfl:=an h1;exact⟨rfl,rfl,λ_=>aR.refl _⟩⟩,λi=>?_,λo ys ho=>?_,λo l hl=>?_,λq x hx=>by rw[h.iF];exact hx⟩;simp only[ah.uI];cases hm:iA i ds with
 |true=>exact aR.dr _
 |false=>simp only;rw[h.tmps i hm];exact aR.refl _
 rw[h.aJ];exact⟨ys,ho,rfl,λi x y hx hy=>by rw[hx]at hy;obtain rfl:=an hy;exact aR.refl _⟩;rw[h.maps];exact⟨l,hl,rfl,λi p p' h1 h2=>by rw[h1]at h2;obtain rfl:=an h2;exact⟨rfl,aR.refl _⟩⟩
theorem Tc {l:List Oper}{o:Oper}(h:o∈l){d:Nat}(hd:o.dst=some d):d∈dstsOf l:=by
 induction l with
 |nil=>cases h
 |cons p l ih=>simp only[dstsOf];rcases aG.1 h with rfl|h;rw[hd];exact gq;split;exact bh _ (ih h);exact ih h
end
theorem WX {α:Type}{o:Nat}{l:α}:∀{m:List (Nat×α)},getM m o=some l->uZ m o l=m:=by
 intro m;induction m with
 |nil=>intro h;rfl
 |cons p m ih=>obtain⟨u,i⟩:=p;intro h;simp only[getM]at h;show(match Nat.beq u o with|true=>(u,l)::m|false=>(u,i)::uZ m o l)=_;grind
theorem KZ {α:Type}(o:Nat)(l l':α):∀(m:List (Nat×α)),uZ (uZ m o l) o l'=uZ m o l'
 |[]=>rfl
 |(u,i)::m=>by
  cases hb:Nat.beq u o with
  |true=>simp only[uZ,hb]
  |false=>simp only[uZ,hb];rw[KZ o l l' m]
theorem AT {α:Type}{o:Nat}{l l':α}:∀{m:List (Nat×α)},getM m o=some l->getM (uZ m o l') o=some l':=by
 intro m;induction m with
 |nil=>intro h;cases h
 |cons p m ih=>obtain⟨u,i⟩:=p;intro h;simp only[getM]at h;simp only[uZ];split at h;rename_i hb;simp only[hb,getM];rename_i hb;simp only[hb,getM];simp_all
theorem CN {a:Act}{d:Nat}{v:Value}(h:d<a.tmps.size):(a.put (some d) v).tmps.getD d undef=v:=by simp[Act.put,Array.getD,h]
theorem Nl {a:Act}{d i:Nat}{v:Value}(h:i≠d):(a.put (some d) v).tmps.getD i undef=a.tmps.getD i undef:=by simp only[Act.put,Array.getD];by_cases hi:i<a.tmps.size;simp[hi,Cg,dM h];grind
theorem HH {a:Act}{d:Nat}{v:Value}:(a.put (some d) v).tmps.size=a.tmps.size:=by simp[Act.put]
theorem qM {S:ah}{d i:Nat}{x:FV}(h:i≠d):(S.put (some d) x).get i=S.get i:=by unfold ah.get ah.put;simp only[KY h]
theorem vq {i:Nat}{ds:List Nat}(h:iA i ds=false):i∉ds:=λhm=>by rw[Qb.2 hm]at h;grind
section
variable {E:Env}{G:aV}{S:ah}{a:Act}{w:World}
theorem Td {call:ig}{Y:oN}(cV:lZ E.C call)(hY:eN E Y){ops:Array Oper}{K:ah->Prop}{Q:Exit->Act->World->Prop}{rest:List Oper}(hQ:∀S' a' w',K S'->pJ E S' a' w'->wpListIn E.kG 0 E.C.P ops Q rest a' w'):∀(l:List Oper)(S:ah)(a:Act)(w:World),oZ E.C call Y ops l K S->pJ E S a w->wpListIn E.kG 0 E.C.P ops Q (l++rest) a w:=by
 intro l;induction l with
 |nil=>intro S a w h hs;exact hQ _ _ _ h hs
 |cons o l ih=>intro S a w h hs;obtain⟨G,hs⟩:=hs;simp only[oZ]at h;rw[dZ];refine wpListIn_step λK' tV=>?_;split at h;rename_i hg;rw[af (by simp[Region.wanted,hg])];exact tC cV hY hs h λS' a' w' hk hs'=>tV _ _ (ih _ _ _ hk hs');rename_i j want hg;split at h;simp_all;rename_i d hd;split at h;rename_i b hb;have hy:=sH hs hd hb;split at h;rename_i DV;rw[ox]at DV;rw[af (by simp[Region.wanted,hg,hy,beq_iff_eq.1 DV])];exact tC cV hY hs h λS' a' w' hk hs'=>tV _ _ (ih _ _ _ hk hs');rename_i DV;rw[ox]at DV;rw[aa (by simp[Region.wanted,hg,hy];simp_all)];exact⟨λf _=>Env.gd f,tV _ _ (ih _ _ _ h ⟨G,hs.put o.dst (jt G w)⟩)⟩;rename_i hb;have hy:=rz hs hd hb;rw[aa (by simp[Region.wanted,hg,hy])];exact⟨λf _=>Env.gd f,tV _ _ (ih _ _ _ h ⟨G,hs.put o.dst (jt G w)⟩)⟩;simp_all
theorem Te (hs:bp E G S a w){t kT eT:TypeId}(hu:E.C.P.underlying t=some (.map kT eT)){ob b:Nat}(hb:G.mp ob=some b){kk:AV}{l:List (AV×FV)}(hl:getM S.maps ob=some l){T:TypeId}{z:Nat}{x:Option AV}(OT:getM E.C.ex.JU ob=some (T,z,x))(hx:x≠some kk)(hz:(E.C.P.info? eT).map (·.zero)=some (some (.slice none 0 0))){L:List gI}(hL:eM E.C.P 40 kT=some L)(hk:gz (gJ E.C.P kT) L kk=true)(hall:∀p,p∈l->gz (gJ E.C.P kT) L p.1=true){old:List (List AV)}(hold:match rJ kk l with|some v=>v=.p (.sl old)|none=>old=[])(new:FV)(hkr:cZ G.aZ w (tv (gJ E.C.P kT) kk.cells) kk):∃(w1:World) (es1:List MapEntry) (SX:Nat) (l1:List (AV×FV)) (j:Nat) (e0:MapEntry) (ad:Option Addr) (c:Nat),(Instr.mapEntry t (.map (some b)) (tv (gJ E.C.P kT) kk.cells)).run E.C.P w=.ok (.tuple #[.slice ad old.length c,.int .i64 (e0.born:Int)]) w1/\bp (E.PU ob) G {S with maps:=uZ S.maps ob l1} a w1/\w1.heap[b]?=some (.map es1.toArray SX)/\nG es1 SX/\es1.length=l1.length/\es1[j]?=some e0/\e0.key=tv (gJ E.C.P kT) kk.cells/\e0.val=.slice ad old.length c/\old.length<=c/\cZ G.aZ w1 (.slice ad old.length c) (.sl old)/\((old.length=0/\c=0)\/∃b2 off,(ad=some ⟨b2,off,none⟩/\off=0)/\G.tail (.inr (ob,e0.born))=some (b2,off+old.length*z,off+c*z,T))/\(∀(i:Nat)(e:MapEntry)(p:AV×FV),es1[i]?=some e->l1[i]?=some p->i≠j->x≠some p.1->Ed G T z ob e)/\l1.set j (kk,new)=BY kk new l/\(∀(i:Nat)(e:MapEntry),es1[i]?=some e->i≠j->e.born≠e0.born):=by
 obtain⟨b',fZ,es,h1,h2,h3,h4,h5⟩:=hs.ext'.mps.at_ ob l hl;obtain rfl:b'=b:=by simp_all
 have hka:=Na (w:=w) h4 (λi e p a b=>(h5 i e p a b).1) hall;have hent:=WS (w:=w) hu hL hk h2 hka (z:=.slice none 0 0) (λw=>HA hz);rw[CA]at hold;rw[uh];have hs1:=hs.PU ob;have hnone:∀T z k,getM (E.PU ob).C.ex.JU ob=some (T,z,k)->False:=λT z k h=>(pS h).1 rfl;cases gb:iw kk (gA l)with
 |none=>
  rw[gb]at hent hold;simp only[Option.bind_none]at hold;subst hold;refine⟨_,es++[({key:=tv (gJ E.C.P kT) kk.cells,val:=.slice none 0 0,born:=fZ}:MapEntry)],fZ+1,l++[(kk,.p (.sl []))],es.length,({key:=tv (gJ E.C.P kT) kk.cells,val:=.slice none 0 0,born:=fZ}:MapEntry),none,0,hent,?_,World.putObj_heap_same (bC.1 h2).1,⟨λe he=>?_,?_⟩,by grind,by simp,rfl,rfl,ay _,.WE _ _,.inl ⟨rfl,rfl⟩,λi e p he hp hi hxp=>?_,?_,λi e he hi=>?_⟩;refine hs1.SV (es':=es++[({key:=tv (gJ E.C.P kT) kk.cells,val:=.slice none 0 0,born:=fZ}:MapEntry)]) (Ee:=fZ+1) (l':=l++[(kk,.p (.sl []))]) hb h2 ⟨λe he=>?_,?_⟩ (by grind) (λi e p he hp=>?_) (λT z k h=>(hnone T z k h).elim);rcases aW.1 he with he|he;have :=h3.lt e he;omega;simp_all;rw[aN,gW];refine⟨h3.nd,by simp,λu hu v hv=>?_⟩;obtain⟨e,he,rfl⟩:=aA.1 hu;have :=h3.lt e he;grind;by_cases hi:i<es.length;grind;rw[dN oO]at he;rw[dN oO,<-h4]at hp;cases hq:i-es.length with
  |zero=>rw[hq]at he hp;simp at he hp;subst he;subst hp;exact⟨hkr,.p _ _ (.WE _ _)⟩
  |succ q=>simp_all
  rcases aW.1 he with he|he;have :=h3.lt e he;omega;simp_all;rw[aN,gW];refine⟨h3.nd,by simp,λu hu v hv=>?_⟩;obtain⟨e,he,rfl⟩:=aA.1 hu;have :=h3.lt e he;grind;have hlt:i<es.length:=by have :=(aC.1 he).1;simp at this;omega
  rw[cm hlt]at he;rw[cm oO]at hp;exact hs.ext'.mps.room ob T z x l b' fZ es hl OT hb h2 i e p he hp hxp;simp_all;have hlt:i<es.length:=by have :=(aC.1 he).1;simp at this;omega
  rw[cm hlt]at he;have :=h3.lt e (bA he);grind
 |some j=>
  rw[gb]at hent hold;obtain⟨hj,hkj⟩:=uj gb;rw[nK,ai]at hj;obtain⟨e0,ZV,hek,hrun⟩:=hent;simp only[nL,aq hj,eC]at hold;have anA:(l[j]).1=kk:=by
   have h6:(gA l)[j]?=some kk:=by rw[aq oO,hkj]
   rw[nK,aM,aq hj]at h6;exact an h6
  obtain⟨h6,h7⟩:=h5 j e0 l[j] ZV (aq hj);obtain⟨ad,n,c,g1,g2⟩:=hs.ext'.mps.room ob T z x l b' fZ es hl OT hb h2 j e0 l[j] ZV (aq hj) (by simp_all);rw[hold,g1]at h7;have h8:cZ G.aZ w (.slice ad n c) (.sl old):=h7.plain;obtain⟨_,_,hv,hle,-⟩:=h8.kS;injection hv with q1 q2 q3;subst q2;subst q3;rw[g1]at hrun;refine⟨w,es,fZ,l,j,e0,ad,c,hrun,?_,h2,h3,h4,ZV,hek,g1,hle,h8,g2,λi e p he hp hi hxp=>hs.ext'.mps.room ob T z x l b' fZ es hl OT hb h2 i e p he hp hxp,rfl,λi e he hi hbn=>?_⟩;rw[WX hl];omega;have El:=h3.nd;have e1:(es.map (·.born))[i]?=some e0.born:=by rw[aM,he];simp[hbn]
  have e2:(es.map (·.born))[j]?=some e0.born:=by rw[aM,ZV];rfl
  have zZ:=(aC.1 e1).1;exact hi (((List.getElem?_inj zZ El).1 (e1.trans e2.symm)))
theorem CO {P:Program}{o:Oper}{ρ:Operand->Value}{x:Operand}{i:Nat}{vs:Array Value}{v:Value}(ho:o.op=.extract x i)(hx:ρ x=.tuple vs)(hv:vs[i]?=some v):(execOp ρ o).run P w=.ok (.value v) w:=by simp[execOp,ho,hx,Instr.extract,hv]
theorem Tf {P:Program}{o:Oper}{ρ:Operand->Value}{t:TypeId}{m k:Operand}{v:Value}{w':World}(ho:o.op=.mapEntry t m k)(h:(Instr.mapEntry t (ρ m) (ρ k)).run P w=.ok v w'):(execOp ρ o).run P w=.ok (.value v) w':=by simp[execOp,ho,h]
theorem Qd {P:Program}{o:Oper}{ρ:Operand->Value}{x y:Operand}{tx ty:TypeId}{v:Value}{w':World}(ho:o.op=.call ⟨.builtin .append,#[x,y],#[tx,ty]⟩)(h:(Builtin.append_ #[tx,ty] o.type #[ρ x,ρ y]).run P w=.ok v w'):(execOp ρ o).run P w=.ok (.value v) w':=by simp[execOp,ho,resolve,invoke,builtin,h]
theorem Tg {P:Program}{o:Oper}{ρ:Operand->Value}{t:TypeId}{m s x:Operand}{w':World}(ho:o.op=.entryStore t m s x)(h:(Instr.entryStore t (ρ m) (ρ s) (ρ x)).run P w=.ok () w'):(execOp ρ o).run P w=.ok .skip w':=by simp[execOp,ho,h]
theorem ZW {es:List MapEntry}{j:Nat}{e0:MapEntry}(h:es[j]?=some e0)(v:Value):(es.set j {e0 with val:=v}).map (·.born)=es.map (·.born):=by apply fP;grind
theorem WY {ob:Nat}{G':aV}{Sx:ah}{ax:Act}{w2:World}(hsE:bp (E.PU ob) G' Sx ax w2){b:Nat}(hb:G'.mp ob=some b){es:List MapEntry}{fZ:Nat}(hw2:w2.heap[b]?=some (.map es.toArray fZ))(CI:nG es fZ){l0 l1:List (AV×FV)}{m0:List (Nat×List (AV×FV))}(hm0:getM m0 ob=some l0)(afP:Sx.maps=uZ m0 ob l1)(hlen:es.length=l1.length){j:Nat}{e0:MapEntry}(ZV:es[j]?=some e0){kk:AV}(hkr:cZ G'.aZ w2 e0.key kk){v':Value}{new:List (List AV)}(hnew:cZ G'.aZ w2 v' (.sl new)){T:TypeId}{z:Nat}{x:Option AV}(OT:getM E.C.ex.JU ob=some (T,z,x))(hroom:Ed G' T z ob {e0 with val:=v'})(HD:∀(i:Nat)(e:MapEntry)(p:AV×FV),es[i]?=some e->l1[i]?=some p->i≠j->x≠some p.1->Ed G' T z ob e):bp E G' {Sx with maps:=uZ m0 ob (l1.set j (kk,.p (.sl new)))} ax (w2.putObj b (.map (es.set j {e0 with val:=v'}).toArray fZ)):=by
 have Kf:getM Sx.maps ob=some l1:=by rw[afP];exact AT hm0
 obtain⟨b2,aiu,es2,q1,q2,q3,q4,q5⟩:=hsE.ext'.mps.at_ ob l1 Kf;obtain rfl:b2=b:=by simp_all
 obtain rfl:=MU hw2 q2;have hjl:j<es2.length:=(aC.1 ZV).1;have hsF:=hsE.SV (es':=es2.set j {e0 with val:=v'}) (Ee:=fZ) (l':=l1.set j (kk,.p (.sl new))) hb hw2 ⟨λe he=>by rcases List.mem_or_eq_of_mem_set he with he|rfl;exact CI.lt e he;exact CI.lt e0 (bA ZV),by rw[ZW ZV];exact CI.nd⟩ (by grind) (λi e p he hp=>by rw[List.getElem?_set]at he hp;by_cases hi:j=i;subst hi;rw[af rfl,af hjl]at he;rw[af rfl,af oO]at hp;obtain rfl:=an he;obtain rfl:=an hp;exact⟨hkr,.p _ _ hnew⟩;grind) (λT z k h=>((pS h).1 rfl).elim);rw[afP,KZ]at hsF;refine bp.agF hsF λT2 z2 k2 l2 b3 anB es3 v1 v2 v3 v4 i e p v5 v6 v7=>?_;rw[OT]at v2;obtain⟨rfl,rfl,rfl⟩:T=T2/\z=z2/\x=k2:=by simp_all
 have Fq:l2=l1.set j (kk,.p (.sl new)):=by have :=AT (l':=l1.set j (kk,.p (.sl new))) hm0;simp only at v1;rw[this]at v1;exact(an v1).symm
 subst Fq;obtain rfl:b2=b3:=by simp_all
 have uJ:(w2.putObj b2 (.map (es2.set j {e0 with val:=v'}).toArray fZ)).heap[b2]?=some (.map (es2.set j {e0 with val:=v'}).toArray fZ):=World.putObj_heap_same (bC.1 hw2).1;grind
theorem Qe (S:ah)(d0 d1 d2 d3:Nat)(m:List (Nat×List (AV×FV)))(m1:List (Nat×List (AV×FV))):bL {(((({S with maps:=m1}.put (some d0) .dr).put (some d1) .dr).put (some d2) .dr).put (some d3) .dr)with maps:=m} ((S.uI [d0,d1,d2,d3]).Pb m):=by
 refine⟨rfl,rfl,rfl,λo bs h=>⟨h,id⟩,⟨rfl,λi f f' h h'=>?_⟩,λi=>?_,λo ys h=>⟨ys,h,rfl,λi x y h1 h2=>?_⟩,λo l h=>⟨l,h,rfl,λi p p' h1 h2=>?_⟩,λq x h=>h⟩;have h':S.bF[i]?=some f':=h';have h:S.bF[i]?=some f:=h;rw[h]at h';obtain rfl:=an h';exact⟨rfl,rfl,λ_=>aR.refl _⟩;show aR _ (match iA i [d0,d1,d2,d3]with|true=>.dr|false=>S.tmps i);cases hm:iA i [d0,d1,d2,d3]with
 |true=>exact aR.dr _
 |false=>have :=vq hm;simp only[aG,fQ,or_false,not_or]at this;obtain⟨h0,h1,h2,h3⟩:=this;simp only[ah.put,KY h0,KY h1,KY h2,KY h3];exact aR.refl _
 rw[h1]at h2;obtain rfl:=an h2;exact aR.refl _;rw[h1]at h2;obtain rfl:=an h2;exact⟨rfl,aR.refl _⟩
theorem akO {α:Type}{l:List α}(h:l.length=5):∃a b c d e,l=[a,b,c,d,e]:=by match l,h with|[a,b,c,d,e],_=>simp_all
theorem WZ {m k y d0 d1 d2 d3 n:Nat}(h:Zp m k y d0 d1 d2 d3 n=true):(d0<n/\d1<n/\d2<n/\d3<n)/\(m≠d0/\m≠d1/\m≠d2/\m≠d3)/\(k≠d0/\k≠d1/\k≠d2/\k≠d3)/\(y≠d0/\y≠d1/\y≠d2/\y≠d3)/\(d0≠d1/\d0≠d2/\d0≠d3)/\(d1≠d2/\d1≠d3)/\d2≠d3:=by unfold Zp at h;simp only[aY,ads,eP]at h;obtain⟨⟨⟨⟨⟨⟨⟨⟨⟨HC,OU⟩,hd2⟩,hd3⟩,hm⟩,hk⟩,hy⟩,adM⟩,adN⟩,agJ⟩:=h;have hm:=vq hm;have hk:=vq hk;have hy:=vq hy;have adM:=vq adM;have adN:=vq adN;simp only[aG,fQ,or_false,not_or]at hm hk hy adM adN;exact⟨⟨HC,OU,hd2,hd3⟩,hm,hk,hy,adM,adN,bt agJ⟩
theorem Th {ops:Array Oper}{K:ah->Prop}{Q:Exit->Act->World->Prop}(hQ:∀S' a' w',K S'->pJ E S' a' w'->Q .normal a' w'){l:List Oper}(h:SH E.C l K S)(hs:bp E G S a w):wpListIn E.kG 0 E.C.P ops Q l a w:=by
 unfold SH at h;obtain⟨t,tx,ty,m,k,y,d0,d1,d2,d3,Gm,HI,ZX,hd,h⟩:=h;have hlen:l.length=5:=by rw[<-ai (f:=λo:Oper=>o.op),Gm];rfl
 obtain⟨o1,o2,o3,o4,o5,hl5⟩:=akO hlen;rw[hl5]at Gm HI ZX⊢;obtain⟨p1,Gm⟩:=eR Gm;obtain⟨p2,Gm⟩:=eR Gm;obtain⟨p3,Gm⟩:=eR Gm;obtain⟨p4,Gm⟩:=eR Gm;obtain⟨p5,-⟩:=eR Gm;obtain⟨s1,HI⟩:=eR HI;obtain⟨s2,HI⟩:=eR HI;obtain⟨s3,HI⟩:=eR HI;obtain⟨s4,HI⟩:=eR HI;obtain⟨s5,-⟩:=eR HI;obtain⟨g1,ZX⟩:=eR ZX;obtain⟨g2,ZX⟩:=eR ZX;obtain⟨g3,ZX⟩:=eR ZX;obtain⟨g4,ZX⟩:=eR ZX;obtain⟨g5,-⟩:=eR ZX;obtain⟨⟨HC,OU,hd2,hd3⟩,⟨m0,m1,m2,m3⟩,⟨k0,k1,k2,k3⟩,⟨y0,y1,y2,y3⟩,⟨d01,d02,d03⟩,⟨d12,d13⟩,agJ⟩:=WZ hd;clear hd hlen hl5 Gm HI ZX;have p1:o1.op=_:=p1;have p2:o2.op=_:=p2;have p3:o3.op=_:=p3;have p4:o4.op=_:=p4;have p5:o5.op=_:=p5;have s1:o1.dst=_:=s1;have s2:o2.dst=_:=s2;have s3:o3.dst=_:=s3;have s4:o4.dst=_:=s4;have s5:o5.dst=_:=s5;split at h;rename_i kT eT _ e _ ui ht htx hty;have hu:=(E.C.ok ht).map;have Ke:=(E.C.ok htx).slice;obtain⟨dd,ZN,hsh⟩:=(E.C.ok hty).yL;split at h;rename_i j ki ob yU hj hki Vo;have hok:=E.C.ok hj;have hdk:∀k,dd≠.int k:=λk e=>by rw[<-hsh,e]at yU;simp[shapeOf,Shape.Fj]at yU
 split at h;rename_i kk ys l0 T z x hkk hyy hl OT;obtain⟨hT,hz,hb0,hx,hzero,L,hL,hkf,hall,yT,old,hold,hlo,hbd,l',hl',hK⟩:=h;obtain rfl:=aK hT;obtain rfl:=aK hz;have hb0:=bt hb0;have hagg:=(E.C.ok hki).gJ;rw[<-hagg]at hkf hall;have hkr:=(aQ.get hs k).fe hkk;have hkey:=sX hkr hkf;have hmr:=aQ.get hs m;rw[Vo]at hmr;obtain⟨b,hvm,hb⟩:∃b,a.tmps.getD m undef=.map (some b)/\G.mp ob=some b:=by
  generalize a.tmps.getD m undef=vm at hmr;cases hmr with
  |fK _ b hb=>simp_all
 obtain⟨w1,es1,SX,l1,jx,e0,ad,c,r1,hsB,hw1,CI,afQ,ZV,hek,KX,hle,om,hroom,Nj,Bj,aiv⟩:=Te hs hu hb hl OT hx hzero hL hkf hall hold (.p (.sl (old++ys))) (by simp_all);have hsz:a.tmps.size=S.n:=hs.size;obtain⟨vt,hvt⟩:∃vt,vt=Value.tuple #[.slice ad old.length c,.int .i64 (e0.born:Int)]:=⟨_,rfl⟩;obtain⟨v0,hv0⟩:∃v0,v0=Value.slice ad old.length c:=⟨_,rfl⟩;have hsC:=(hsB.put (some d0) (v:=vt) (x:=.dr) (.dr _)).put (some d1) (v:=v0) (x:=.dr) (.dr _);obtain⟨a1,ha1⟩:∃a1,a1=a.put (some d0) vt:=⟨_,rfl⟩;obtain⟨a2,ha2⟩:∃a2,a2=a1.put (some d1) v0:=⟨_,rfl⟩;rw[<-ha1,<-ha2]at hsC;have z1:a1.tmps.size=S.n:=by rw[ha1,HH,hsz]
 have z2:a2.tmps.size=S.n:=by rw[ha2,HH,z1]
 have f1:∀i,i≠d0->a1.tmps.getD i undef=a.tmps.getD i undef:=λi hi=>by rw[ha1];exact Nl hi
 have f2:∀i,i≠d1->a2.tmps.getD i undef=a1.tmps.getD i undef:=λi hi=>by rw[ha2];exact Nl hi
 have x1:a1.tmps.getD d0 undef=vt:=by rw[ha1];exact CN oO
 have x2:a2.tmps.getD d1 undef=v0:=by rw[ha2];exact CN oO
 refine wpListIn_plain g1 λK1 hK1=>wp_value (v:=vt) (w':=w1) (Tf p1 (by rw[pP,pP,hvm,hkey,r1,hvt])) (hK1 _ _ ?_);rw[s1,<-ha1];refine wpListIn_plain g2 λK2 hK2=>wp_value (v:=v0) (w':=w1) (CO (vs:=#[v0,.int .i64 (e0.born:Int)]) p2 (by rw[pP,x1,hvt,hv0]) rfl) (hK2 _ _ ?_);rw[s2,<-ha2];have hyr:=aQ.get hsC y;rw[qM y1,qM y0]at hyr;obtain⟨news,n1,n2,n3⟩:=aQ.items (P:=E.C.P) (e:=j.size) hyy hyr yT;obtain⟨ad',c',w2,G',r2,hsD,afR,agK,hkeep,hmp,HD⟩:=PW (ty:=o3.type) hsC (q:=(ob,e0.born)) (by
  cases hq:getM (E.PU ob).C.ex.JU ob with
  |none=>rfl
  |some r=>exact absurd rfl (pS hq).1) Ke ZN hdk hok om hlo yT hle hroom n1 n2 n3 hbd hb0
 obtain⟨v',WU⟩:∃v',v'=Value.slice ad' (old++ys).length c':=⟨_,rfl⟩;rw[<-hv0,<-WU]at r2;rw[<-WU]at afR;have hsE:=(hsD.put (some d2) (v:=v') (x:=.dr) (.dr _)).put (some d3) (v:=.int .i64 (e0.born:Int)) (x:=.dr) (.dr _);obtain⟨a3,ha3⟩:∃a3,a3=a2.put (some d2) v':=⟨_,rfl⟩;obtain⟨a4,ha4⟩:∃a4,a4=a3.put (some d3) (.int .i64 (e0.born:Int)):=⟨_,rfl⟩;rw[<-ha3,<-ha4]at hsE;have z3:a3.tmps.size=S.n:=by rw[ha3,HH,z2]
 have f3:∀i,i≠d2->a3.tmps.getD i undef=a2.tmps.getD i undef:=λi hi=>by rw[ha3];exact Nl hi
 have f4:∀i,i≠d3->a4.tmps.getD i undef=a3.tmps.getD i undef:=λi hi=>by rw[ha4];exact Nl hi
 have x3:a3.tmps.getD d2 undef=v':=by rw[ha3];exact CN oO
 have x4:a4.tmps.getD d3 undef=.int .i64 (e0.born:Int):=by rw[ha4];exact CN oO
 refine wpListIn_plain g3 λK3 hK3=>wp_value (v:=v') (w':=w2) (Qd p3 (by rw[pP,pP,x2];exact r2)) (hK3 _ _ ?_);rw[s3,<-ha3];refine wpListIn_plain g4 λK4 hK4=>wp_value (v:=.int .i64 (e0.born:Int)) (w':=w2) (CO (vs:=#[v0,.int .i64 (e0.born:Int)]) p4 (by rw[pP,f3 _ d02,f2 _ d01,x1,hvt,hv0]) rfl) (hK4 _ _ ?_);rw[s4,<-ha4];have hw2:w2.heap[b]?=some (.map es1.toArray SX):=HD _ _ hw1 rfl;have adO:=aQ.get hsE k;rw[qM k3,qM k2,qM k1,qM k0,f4 _ k3,f3 _ k2,f2 _ k1,f1 _ k0,hkey]at adO;have adO:cZ G'.aZ w2 e0.key kk:=by rw[hek];exact adO.fe (y:=kk) hkk
 have hG:=WY (E:=E) hsE (b:=b) (by grind) hw2 CI (m0:=S.maps) hl rfl afQ ZV adO afR OT ⟨ad',_,c',WU,agK⟩ (λi e p he hp hi hxp=>by obtain⟨ad2,n2,c2,u1,u2⟩:=Nj i e p he hp hi hxp;exact⟨ad2,n2,c2,u1,u2.imp id λ⟨b2,off,u3,u4⟩=>⟨b2,off,u3,hkeep _ _ (λe1=>aiv i e he hi (gU e1).2) u4⟩⟩);refine wpListIn_plain g5 λK5 hK5=>?_;refine⟨λf _=>Env.gd f,?_⟩;have aix:=Tg (P:=E.C.P) (w:=w2) (ρ:=a4.eval) p5 (w':=w2.putObj b (.map (es1.set jx {e0 with val:=v'}).toArray SX)) (by rw[pP,pP,pP,f4 _ m3,f3 _ m2,f2 _ m1,f1 _ m0,hvm,x4,f4 _ agJ,x3];exact run_store hw2 CI.nd ZV v');rw[Oper.semAt_eq _ _ _ (λc=>by grind),aix];refine hK5 _ _ ?_;rw[s5];refine hQ _ _ _ hK ?_;rw[<-hl',<-Bj];exact pJ.weaken ⟨_,hG⟩ (Qe S d0 d1 d2 d3 _ _);simp_all;simp_all;simp_all
theorem Kh {call:ig}{Y:oN}(cV:lZ E.C call)(hY:eN E Y){id:Nat}{ops:Array Oper}{draw:Bool}{K:ah->Prop}{Q:Exit->Act->World->Prop}(hQ:∀S a w,K S->pJ E S a w->Q .normal a w)(hs:pJ E S a w)(h:MR E.C call Y ops draw K S):(Code.region id ops draw).wpIn E.kG 0 E.C.P Q a w:=by
 unfold MR at h;cases draw with
 |true=>simp_all
 |false=>refine wpIn_region_list ?_;rw[<-dw (ops.toList.length-5) ops.toList];exact Td cV hY (λS' a' w' hk ⟨G',hs'⟩=>Th hQ hk hs') _ _ _ _ h hs
end
end Qv
