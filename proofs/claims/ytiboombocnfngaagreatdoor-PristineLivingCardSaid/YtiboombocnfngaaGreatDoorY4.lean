/- Part 4 of the proof: its lemmas. No condition. -/
import Derived.Test.YtiboombocnfngaaGreatDoorY3
import Derived.WideKeyEntry
import Derived.Lib.ConvBytes
import Derived.Laws.MakeOwn
set_option maxRecDepth 10000
set_option maxHeartbeats 80000000
set_option linter.all false
namespace Qv
open Go Go.RowKit
theorem Pd {α:Type}{d o:Nat}{x:α}(hne:o≠d):∀{l:List (Nat×α)},getM l o=some x->getM (Ae d l) o=some x:=by
 intro l;induction l with
 |nil=>intro h;cases h
 |cons p l ih=>obtain⟨u,i⟩:=p;intro h;simp only[getM]at h;simp only[Ae];split at h;rename_i hb;obtain rfl:=aK hb;split;simp_all;simp only[getM,iN];omega;rename_i hb;split;simp_all;simp only[getM,hb];simp_all
def Env.Pe (E:Env)(ob:Nat):Env:=⟨E.C.open {E.C.ex with Mh:=Ae ob E.C.ex.Mh},E.w0,E.Ec,E.hJ,E.hn,E.lX,E.bD,E.loops,E.fixed,E.own,E.hown,E.qU,E.rows,E.Fi,E.hrows⟩
section
variable {E:Env}{G:aZ}{S:ag}{a:Act}{w:World}{o:Oper}
theorem bp.Pe (h:bp E G S a w)(ob:Nat):bp (E.Pe ob) G S a w:=have hm:=h.ext'.mps;⟨h.kept,h.size,⟨⟨hm.at_,hm.loc,hm.inj,hm.jg,hm.Ao,hm.Ap,hm.apart,λo T z k l b gm es q1 q2=>hm.room o T z k l b gm es q1 (pg q2).2⟩,h.ext'.kX,h.ext'.bD,h.ext'.jX,h.ext'.loops,h.ext'.kZ,h.ext'.yl,h.ext'.lX,h.ext'.marks,h.ext'.Af⟩,⟨h.iY.at_,h.iY.row,h.iY.cM⟩,h.mX,h.fo,h.tmps,h.aD,h.gD,h.eU,h.ck,h.fS,h.dR⟩
theorem bp.afm {ob:Nat}(h:bp (E.Pe ob) G S a w)(hr:∀(T:TypeId)(z:Nat)(k:Option AV)(l:List (AV×FV))(b gm:Nat)(es:List MapEntry),getM S.maps ob=some l->getM E.C.ex.Mh ob=some (T,z,k)->G.mp ob=some b->w.heap[b]?=some (.map es.toArray gm)->∀(i:Nat)(e:MapEntry)(p:AV×FV),es[i]?=some e->l[i]?=some p->k≠some p.1->Ee G T z ob e):bp E G S a w:=have hm:=h.ext'.mps;⟨h.kept,h.size,⟨⟨hm.at_,hm.loc,hm.inj,hm.jg,hm.Ao,hm.Ap,hm.apart,λo T z k l b gm es q1 q2=>by by_cases e:o=ob;grind;exact hm.room o T z k l b gm es q1 (Pd e q2)⟩,h.ext'.kX,h.ext'.bD,h.ext'.jX,h.ext'.loops,h.ext'.kZ,h.ext'.yl,h.ext'.lX,h.ext'.marks,h.ext'.Af⟩,⟨h.iY.at_,h.iY.row,h.iY.cM⟩,h.mX,h.fo,h.tmps,h.aD,h.gD,h.eU,h.ck,h.fS,h.dR⟩
theorem bp.Pf (hs:bp E G S a w)(q:Nat×Nat)(hq:getM E.C.ex.Mh q.1=none):bp E {G with tail:=λt=>if t=.inr q then none else G.tail t} S a w:=by have up:∀v x,aO G w v x->aO {G with tail:=λt=>if t=.inr q then none else G.tail t} w v x:=λv x h=>h.keep (λ_ _ h=>h) (λ_ _ _ _ h=>h) (.refl _ _) (λ_ _ h=>h) (λt r h=>by simp_all);have hm:=hs.ext'.mps;refine⟨hs.kept,hs.size,⟨⟨λo l ho=>?_,hm.loc,hm.inj,hm.jg,hm.Ao,hm.Ap,hm.apart,λo T z k l b gm es q1 q2 q3 q4 i e p q5 q6 q7=>?_⟩,hs.ext'.kX,λi vals fr h1 h2=>?_,hs.ext'.jX,hs.ext'.loops,hs.ext'.kZ,hs.ext'.yl,hs.ext'.lX,hs.ext'.marks,hs.ext'.Af⟩,hs.iY.keep rfl rfl (λo bs q=>⟨q,rfl,rfl⟩) (λ_ _ _ q=>q) (λ_ _ e=>e) (av _) (λ_ _ _ _ _ _=>rfl) (λ_ _ _=>rfl) (λ_ _ _ _ e=>e) (λ_ _ _ _ e=>e) (λo r t z _ e=>?_),hs.mX,hs.fo,λi hi=>up _ _ (hs.tmps i hi),λo cells ho=>?_,hs.gD,hs.eU,λo t b r h h'=>?_,λt b s e T h=>?_,λt t' b r r' h h'=>?_⟩;obtain⟨b,gm,es,h1,h2,h3,h4,h5⟩:=hm.at_ o l ho;grind;obtain⟨ad,n,c,g1,g2⟩:=hm.room o T z k l b gm es q1 q2 q3 q4 i e p q5 q6 q7;refine⟨ad,n,c,g1,g2.imp id λ⟨b2,off,g3,g4⟩=>⟨b2,off,g3,?_⟩⟩;grind;obtain⟨h3,h4⟩:=hs.ext'.bD i vals fr h1 h2;simp_all;grind;obtain⟨b,h1,h2⟩:=hs.aD o cells ho;grind;simp only at h';split at h';grind;exact hs.ck o t b r h h';simp only at h;split at h;grind;exact hs.fS t b s e T h;simp only at h h';split at h;grind;split at h';grind;exact hs.dR t t' b r r' h h'
theorem bp.YX (hs:bp E G S a w){b s0:Nat}{news:List Value}(hlt:b<w.heap.size)(hw0:E.w0.heap.size<=b)(hty:∃cs T fr,w.heap[b]?=some (.cells cs T fr))(hfree:∀i,s0<=i->i<s0+news.length->¬G.bh b i)(fJ:∀o,G.loc o≠some b)(hrow:∀o,G.row o≠some b)(VU:∀t r,G.tail t≠some (b,r)):bp E {G with bh:=λb' o=>G.bh b' o\/(b'=b/\s0<=o/\o<s0+news.length)} S a (w.setCells b s0 news)/\(∀b' i c,G.bh b' i->w.cell? ⟨b',i,none⟩=some c->(w.setCells b s0 news).cell? ⟨b',i,none⟩=some c):=by
 obtain⟨tcs,tT,tfr,tty⟩:=hty;have hcell:∀b' i c,G.bh b' i->w.cell? ⟨b',i,none⟩=some c->(w.setCells b s0 news).cell? ⟨b',i,none⟩=some c:=λb' i c hi hc=>by rw[World.cell?_setCells_out b news s0 w ⟨b',i,none⟩ (λe _=>by grind)];omega
 have hout:∀b2 i,b2≠b->(w.setCells b s0 news).cell? ⟨b2,i,none⟩=w.cell? ⟨b2,i,none⟩:=λb2 i hne=>World.cell?_setCells_out b _ s0 w ⟨b2,i,none⟩ (λe=>absurd e hne);have hfz:∀x,(w.setCells b s0 news).frozen? x=w.frozen? x:=λx=>World.frozen?_setCells b _ s0 w x;have hsz:=jy b news s0 w;have up:∀v x,aO G w v x->aO {G with bh:=λb' o=>G.bh b' o\/(b'=b/\s0<=o/\o<s0+news.length)} (w.setCells b s0 news) v x:=λv x hv=>hv.keep (λ_ _ h=>.inl h) hcell ((fU.setCells b _ _ _).oV _) (λ_ _ h=>h) (λ_ _ h=>h);have Hv:lN (λx=>x) G {G with bh:=λb' o=>G.bh b' o\/(b'=b/\s0<=o/\o<s0+news.length)} S S w:=⟨λ_=>rfl,λo l' h=>⟨l',h,(Mw l').symm,λb hb=>hb⟩,λq x h=>⟨h,λr hr=>hr⟩,λo b h=>h,λo b h=>h,λb' i es n hb _ h=>h.elim id λh=>by simp_all,λ_ h=>.inl h,λ_ _ h=>.inl h,λ_ _ h=>h⟩;refine⟨⟨hs.kept.setCells (.inl hw0) _ _,hs.size,hs.ext'.keep rfl rfl rfl up (.setCells _ _ _ _) (Hv:=Hv),?_,?_,?_,λi hi=>up _ _ (hs.tmps i hi),λo cells ho=>?_,λo b' ho=>?_,hs.eU,hs.ck,λt b' s e T' h=>?_,hs.dR⟩,hcell⟩;refine hs.iY.keep rfl rfl (λo bs q=>⟨q,rfl,rfl⟩) (λ_ _ _ q=>q) (λ_ _ e=>e) oO (λo bs b2 q q2 e=>gQ _ _ _ _ _ (λe2=>fJ o (e2▸e))) (λo r e=>gQ _ _ _ _ _ (λe2=>hrow o (e2▸e))) (λo r i e hi=>?_) (λ_ _ _ _ e=>e) (λ_ _ t q _ e=>⟨t,q,e⟩);grind;rintro b' o (h|⟨rfl,-,-⟩);exact hs.mX b' o h;omega;rintro b' o (h|⟨rfl,-,-⟩);rw[hsz];exact hs.fo b' o h;omega;obtain⟨b',h1,h2⟩:=hs.aD o cells ho;grind;obtain⟨k1,k2,k3⟩:=hs.gD o b' ho;grind;obtain⟨k1,k2,kt,k3⟩:=hs.fS t b' s e T' h;have hb:b'≠b:=by grind
 refine⟨oO,k2,jA _ _ _ _ _ _ kt,λi hi hi'=>?_⟩;simp_all
theorem Pg (hs:bp E G S a w){q:Nat×Nat}(hq:getM E.C.ex.Mh q.1=none){xs ys:List (List AV)}{ad:Option Addr}{c:Nat}{yv:Value}{t u elem ty:TypeId}{dd:TypeDesc}{i:jE}{news:List Value}(ht:E.C.P.underlying t=some (.slice elem))(hu:E.C.P.underlying u=some dd)(hd:∀k,dd≠.int k)(hi:fO E.C.P elem i)(hx:dh G.bh w (.slice ad xs.length c) (.sl xs))(JM:∀zs,zs∈xs->zs.length=i.size)(yb:∀zs,zs∈ys->zs.length=i.size)(hle:xs.length<=c)(hroom:(xs.length=0/\c=0)\/∃b off,(ad=some ⟨b,off,none⟩/\off=0)/\G.tail (.inr q)=some (b,off+xs.length*i.size,off+c*i.size,elem))(hn:Flat G.bh w i.size ys news)(hl:(Builtin.lenOf yv).run E.C.P w=.ok ys.length w)(hf:∀w',(∀b o,w'.cell? ⟨b,o,none⟩=w.cell? ⟨b,o,none⟩)->(Builtin.firstCells i.size ys.length yv).run E.C.P w'=.ok news.toArray w')(hb:(xs.length+ys.length)*i.bytes<=2^47)(hb0:i.bytes≠0):∃ad' c' w' G',(Builtin.append_ #[t,u] ty #[.slice ad xs.length c,yv]).run E.C.P w=.ok (.slice ad' (xs++ys).length c') w'/\bp E G' S a w'/\dh G'.bh w' (.slice ad' (xs++ys).length c') (.sl (xs++ys))/\(((xs++ys).length=0/\c'=0)\/∃b off,(ad'=some ⟨b,off,none⟩/\off=0)/\G'.tail (.inr q)=some (b,off+(xs++ys).length*i.size,off+c'*i.size,elem))/\(∀q' r,q'≠q->G.tail (.inr q')=some r->G'.tail (.inr q')=some r)/\G'.mp=G.mp/\fU w w':=by
 by_cases h0:ys=[];subst h0;have hnews:news=[]:=cO.1 (by rw[hn.len];simp);subst hnews;have hrun:=mw (P:=E.C.P) (w:=w) (ty:=ty) (base:=ad) ht hu hd hi hl (hf w λ_ _=>rfl) hle;refine⟨ad,c,w,G,by simp_all,hs,by simp_all,by simp_all,λ_ _ _ h=>h,rfl,.refl _⟩;have hm:0<ys.length:=by grind
 have hlen:(xs++ys).length=xs.length+ys.length:=by simp
 by_cases hc:xs.length+ys.length<=c;rcases hroom with hroom|⟨b,off,⟨rfl,hoff⟩,VU⟩;omega;obtain⟨t1,t2,tt,t3⟩:=hs.fS _ _ _ _ _ VU;have hqe:off+xs.length*i.size+news.length<=off+c*i.size:=by have :=ew i.size hc;rw[bC]at this;rw[hn.len];omega
 have hrun:=nj (P:=E.C.P) (w:=w) (ty:=ty) (b:=b) (off:=off) ht hu hd hi hl (hf w λ_ _=>rfl) hc (λj hj=>by obtain⟨⟨u,hu⟩,-,-⟩:=t3 (off+xs.length*i.size+j) oO oO;simp_all) (λj hj=>(t3 (off+xs.length*i.size+j) oO oO).2.1) hn.one;have aex:∀o,G.loc o≠some b:=λo h=>by have :=(hs.ck o _ b _ h VU).1;simp_all
 have KM:∀o,G.row o≠some b:=λo h=>(hs.iY.row o b h).2.2.2.2.1 _ _ VU;have hs1:=hs.Pf q hq;have ahq:∀t r,({G with tail:=λt=>if t=.inr q then none else G.tail t}:aZ).tail t≠some (b,r):=λt r h=>by simp only at h;split at h;grind;rename_i hne;exact hne (hs.dR t _ b _ _ h VU)
 obtain⟨f1,f3⟩:=hs1.YX (news:=news) (s0:=off+xs.length*i.size) t1 t2 (let⟨cs,fr,h,_⟩:=tt;⟨cs,_,fr,h⟩) (λj h1 h2=>(t3 j h1 oO).2.2) aex KM ahq;have hg:=f1.zB (t:=.inr q) (B:=b) (s:=off+xs.length*i.size+news.length) (e:=off+c*i.size) (T:=elem) (by simp) (by rw[jy];omega) t2 (jA _ _ _ _ _ _ tt) aex ahq KM (λj hj hj'=>by obtain⟨⟨u,hu⟩,g2,g3⟩:=t3 j oO oO;refine⟨⟨u,?_⟩,by rw[World.frozen?_setCells];omega,?_⟩;rw[World.cell?_setCells_out b news _ w ⟨b,j,none⟩ (λ_ _=>by simp_all)];omega;simp_all);refine⟨_,c,_,_,by simp_all,hg,?_,.inr ⟨b,off,⟨rfl,hoff⟩,?_⟩,λq' r hne h=>?_,rfl,.setCells _ _ _ _⟩;refine ya oO (λzs hz=>(bf.1 hz).elim (JM zs) (yb zs)) λp zs j z hp hj=>?_;have hjl:j<i.size:=by have h1:=(aG.1 hj).1;have h2:zs∈xs++ys:=bP hp;rw[(bf.1 h2).elim (JM zs) (yb zs)]at h1;exact h1
 rw[vZ]at hp;by_cases VV:p<xs.length;rw[af VV]at hp;obtain⟨_,_,hv,-,hne⟩:=hx.kP;obtain⟨b2,off2,bI,cell,rfl,g1,g2⟩:=hne (λe=>by simp_all);injection hv with e1 e2 e3;have e1:=ak e1;injection e1 with q1 q2;subst q1;subst q2;obtain rfl:bI=i.size:=(g1 p _ hp).symm.trans (JM _ (bP hp));obtain⟨k1,k2,k3,k4⟩:=g2 _ _ _ _ hp hj;rw[fK]at k2 k3;exact⟨_,k1,f3 _ _ _ k3 k2,.inl k3,k4.keep (λ_ _ h=>.inl h) f3 ((fU.setCells b _ _ _).oV _)⟩;rw[aa VV]at hp;obtain⟨u,k1,k2,k3⟩:=hn.at_ _ _ _ _ hp hj;have Ye:(p-xs.length)*i.size+j<news.length:=(aG.1 k1).1;have YP:off+(p*i.size+j)=off+xs.length*i.size+((p-xs.length)*i.size+j):=by
  have :p=xs.length+(p-xs.length):=oO
  have h2:p*i.size=xs.length*i.size+(p-xs.length)*i.size:=by rw[<-bC,<-this]
  omega
 have hin:=World.cell?_setCells_in b news (off+xs.length*i.size) w (λq MF=>by obtain⟨⟨u,hu⟩,-,-⟩:=t3 (off+xs.length*i.size+q) oO oO;simp_all) _ Ye;refine⟨u,k3,?_,.inr ⟨rfl,oO,oO⟩,k2.keep (λ_ _ h=>.inl h) f3 ((fU.setCells b _ _ _).oV _)⟩;simp_all;simp only[if_true];rw[hn.len,hlen,bC,fK];simp_all;obtain⟨olds,KJ,-,YQ⟩:=vV (P:=E.C.P) hx JM;obtain⟨rest,z,hz,qe,hrun⟩:=iM (P:=E.C.P) (w:=w) (ty:=ty) (base:=ad) (news:=news) (olds:=olds) ht hu hd hi hl hf YQ hc hb hb0;have hcap:xs.length+ys.length<=grownCap w (xs.length+ys.length) c elem:=grownCap_ge w _ _ _;generalize hcg:grownCap w (xs.length+ys.length) c elem=cap at*;generalize hW:w.drew.alloc (.cells (olds.toArray++news.toArray++rest) elem)=W at*;have Gg:Below w.drew.heap.size w.drew W:=by rw[<-hW];exact(Below.refl _ _).alloc (av _) _
 have hWs:W.heap.size=w.heap.size+1:=by rw[<-hW];simp
 have hrl:rest.size=(cap-(xs.length+ys.length))*i.size:=by rw[qe,size_zeroCells,hz]
 have hcell:∀q,W.cell? ⟨w.heap.size,q,none⟩=(olds.toArray++news.toArray++rest)[q]?:=λq=>by rw[<-hW];exact World.cell?_alloc_new w.drew _ elem q
 have hfz:∀q,W.frozen? ⟨w.heap.size,q,none⟩=false:=λq=>by rw[<-hW];exact World.frozen?_alloc_new w.drew _ elem q
 have hold:∀b q,b<w.heap.size->W.cell? ⟨b,q,none⟩=w.cell? ⟨b,q,none⟩:=λb q hlt=>by rw[<-hW];exact World.cell?_alloc_lt w.drew _ ⟨b,q,none⟩ hlt
 have h1:=(hs.drew.Oy (w':=W) Gg (λb q=>b=w.heap.size/\q<(xs.length+ys.length)*i.size)).Pf q hq;have hg:=h1.zB (t:=.inr q) (B:=w.heap.size) (s:=(xs.length+ys.length)*i.size) (e:=cap*i.size) (T:=elem) (by simp) oO hs.kept.size (by rw[<-hW];exact⟨_,_,World.alloc_heap_new w.drew _,rfl⟩) (λo h=>by have :=(hs.gD o _ h).1;omega) (λt' r h=>by simp only at h;split at h;grind;have :=(hs.fS t' _ r.1 r.2.1 r.2.2 h).1;omega) (λo h=>by have :=(hs.iY.row o _ h).2.1;omega) (λq hq MF=>by
  refine⟨?_,hfz q,?_⟩;rw[hcell q];have :q<(olds.toArray++news.toArray++rest).size:=by simp only[Array.size_append,List.size_toArray,KJ.len,hn.len,hrl,<-bC];rw[show xs.length+ys.length+(cap-(xs.length+ys.length))=cap from oO];exact MF
  simp_all;rintro(h|⟨-,-,-,h⟩);have :=hs.fo _ _ h;omega;omega);have MM:fU w W:=λk o hk ho=>by rw[Gg.block k (bq.1 hk).1];exact hk
 refine⟨_,cap,W,_,by simp_all,hg,?_,.inr ⟨w.heap.size,0,⟨rfl,rfl⟩,by simp_all⟩,λq' r hne h=>?_,rfl,MM⟩;have hkeep:∀{u:Value}{z:AV},dh G.bh w u z->dh (λb o=>G.bh b o\/(w.drew.heap.size<=b/\b<W.heap.size/\b=w.heap.size/\o<(xs.length+ys.length)*i.size)) W u z:=λh=>h.keep (λ_ _ h=>.inl h) (λb o c hi hc=>by rw[hold b o (hs.fo b o hi)];omega) (λb es n hi hb=>(Gg.block b (hs.fo b 0 hi)).trans hb);refine ya oO (λzs hz=>(bf.1 hz).elim (JM zs) (yb zs)) λp zs j z hp hj=>?_;have hjl:j<i.size:=by have h1:=(aG.1 hj).1;have h2:zs∈xs++ys:=bP hp;rw[(bf.1 h2).elim (JM zs) (yb zs)]at h1;exact h1
 have VV:p<xs.length+ys.length:=by rw[<-hlen];exact(aG.1 hp).1
 have afh:p*i.size+j<(xs.length+ys.length)*i.size:=by have :(p+1)*i.size<=(xs.length+ys.length)*i.size:=ew _ VV;rw[bC]at this;omega
 rw[dn];have BX:(λb o=>G.bh b o\/(w.drew.heap.size<=b/\b<W.heap.size/\b=w.heap.size/\o<(xs.length+ys.length)*i.size)) w.heap.size (p*i.size+j):=.inr ⟨av _,oO,rfl,afh⟩;rw[vZ]at hp;by_cases YR:p<xs.length;rw[af YR]at hp;obtain⟨u,k1,k2,k3⟩:=KJ.at_ _ _ _ _ hp hj;have Ye:=(aG.1 k1).1;refine⟨u,k3,?_,BX,hkeep k2⟩;grind;rw[aa YR]at hp;obtain⟨u,k1,k2,k3⟩:=hn.at_ _ _ _ _ hp hj;have Ye:=(aG.1 k1).1;have YP:p*i.size+j=olds.length+((p-xs.length)*i.size+j):=by
  have :p=xs.length+(p-xs.length):=oO
  have h2:p*i.size=xs.length*i.size+(p-xs.length)*i.size:=by rw[<-bC,<-this]
  rw[KJ.len];omega
 refine⟨u,k3,?_,BX,hkeep k2⟩;rw[hcell,rW (by simp_all),MG (by simp_all),YP];simp[k1];simp_all
theorem Fm {b:Nat}{o:Obj}(h:w.heap[b]?=some o):w.putObj b o=w:=by
 obtain⟨hl,he⟩:=bq.1 h;unfold World.putObj;have :w.heap.setIfInBounds b o=w.heap:=by apply Array.ext_getElem?;intro i;rw[MN];split;simp_all;rfl
 rw[this]
theorem VY {P:Program}{t kT eT:TypeId}(hu:P.underlying t=some (.map kT eT)){L:List gC}(hL:dZ P 40 kT=some L){k:AV}(hk:ij (gM P kT) L k=true){b gm:Nat}{es:List MapEntry}(hb:w.heap[b]?=some (.map es.toArray gm)){ks:List AV}(hks:rR (gM P kT) L es ks){z:Value}(hz:∀w,(zeroValue eT).run P w=.ok z w):match iz k ks with|some j=>∃e0,es[j]?=some e0/\e0.key=tv (gM P kT) k.cells/\(Instr.mapEntry t (.map (some b)) (tv (gM P kT) k.cells)).run P w=.ok (.tuple #[e0.val,.int .i64 (e0.born:Int)]) w|none=>(Instr.mapEntry t (.map (some b)) (tv (gM P kT) k.cells)).run P w=.ok (.tuple #[z,.int .i64 (gm:Int)]) (w.putObj b (.map (es++[({key:=tv (gM P kT) k.cells,val:=z,born:=gm}:MapEntry)]).toArray (gm+1))):=by
 have MD:=(rQ (P:=P) (em:=false) 40).1 kT L 10000 w k.cells dD hL (lR hk);have hfind:=vJ (w:=w) dD hL hk hks;have hg:(Go.getObj b).run P w=.ok (.map es.toArray gm) w:=by simp[Go.getObj,Sem.run,hb]
 have AX:∀o',(Go.setObj b o').run P w=.ok () (w.putObj b o'):=λo'=>by simp[Go.setObj,Sem.run,hb,World.putObj]
 cases fJ:iz k ks with
 |none=>
  rw[fJ]at hfind;have he:(es++[({key:=tv (gM P kT) k.cells,val:=z,born:=gm}:MapEntry)]).toArray=es.toArray.push {key:=tv (gM P kT) k.cells,val:=z,born:=gm}:=by simp
  simp only;rw[he];simp[Instr.mapEntry,run_underlying hu,hg,MD,hfind,found,hz,AX,goInt]
 |some j=>
  rw[fJ]at hfind;obtain⟨hj,hkj⟩:=tZ fJ;have Yd:j<es.length:=by have :=hks.1;omega
  obtain⟨k1,k2⟩:=hks.2 j _ _ (an Yd) (an hj);rw[hkj]at k1;have hmod:(es.modify j λe=>{e with key:=tv (gM P kT) k.cells})=es:=by apply gU;intro i;rw[List.getElem?_modify];split;rename_i e;subst e;simp only[an Yd,ek,bF];rw[<-k1];rfl;simp
  refine⟨es[j],an Yd,k1,?_⟩;have hps:=Fm hb;simp[Instr.mapEntry,run_underlying hu,hg,MD,hfind,found,Yd,k1,Cc hk,AX,goInt,hmod,hps]
theorem run_store {P:Program}{t:TypeId}{b gm:Nat}{es:List MapEntry}(hb:w.heap[b]?=some (.map es.toArray gm))(JP:(es.map (·.born)).Nodup){j:Nat}{e0:MapEntry}(hj:es[j]?=some e0)(v:Value):(Instr.entryStore t (.map (some b)) (.int .i64 (e0.born:Int)) v).run P w=.ok () (w.putObj b (.map (es.set j {e0 with val:=v}).toArray gm)):=by
 have hg:(Go.getObj b).run P w=.ok (.map es.toArray gm) w:=by simp[Go.getObj,Sem.run,hb]
 have AX:∀o',(Go.setObj b o').run P w=.ok () (w.putObj b o'):=λo'=>by simp[Go.setObj,Sem.run,hb,World.putObj]
 have hidx:es.findIdx? (λe=>((e.born:Nat):Int)==((e0.born:Nat):Int))=some j:=WideElems.findIdx_born (l:=es) JP hj;have hmod:(es.modify j λe=>{e with val:=v})=es.set j {e0 with val:=v}:=by apply gU;intro i;rw[List.getElem?_modify,List.getElem?_set];split;grind;simp
 simp[Instr.entryStore,hg,asInt,asIntOf,hidx,AX,hmod]
end
theorem nV {i:Nat}:∀{l:List Nat},gv i l=true↔i∈l
 |[]=>by simp[gv]
 |d::l=>by unfold gv;split;simp_all;rename_i h;have :=bJ h;rw[nV,aC];grind
section
variable {G:aZ}{bh:Nat->Nat->Prop}{loc mp:Nat->Option Nat}{w:World}{ρ:List (Nat×Nat)}{N:List Nat}{m:Nat}
theorem oo:∀{xs:List FV}(i:Nat),(FV.JE ρ xs)[i]?=xs[i]?.map (FV.nm ρ)
 |[],i=>by rfl
 |x::xs,0=>by rfl
 |x::xs,i+1=>by simp[FV.JE,oo (xs:=xs) i]
theorem pz:∀xs:List FV,(FV.JE ρ xs).length=xs.length|[]=>rfl|x::xs=>by simp[FV.JE,pz xs]
theorem oH:∀{xs:List FV},FV.xJ N m xs=true->∀{i:Nat}{x:FV},xs[i]?=some x->x.only N m=true
 |[],_,i,x,h=>by simp at h
 |y::xs,h,i,x,hx=>by
  simp only[FV.xJ]at h;split at h;rename_i hy;cases i with
  |zero=>grind
  |succ i=>exact oH h (by simpa using hx)
  cases h
theorem Ek:∀{l:List (AV×FV)},KA N m l=true->∀{i:Nat}{p:AV×FV},l[i]?=some p->p.2.only N m=true
 |[],_,i,x,h=>by simp at h
 |(k,y)::l,h,i,x,hx=>by
  simp only[KA]at h;split at h;rename_i hy;cases i with
  |zero=>grind
  |succ i=>exact Ek h (by simpa using hx)
  cases h
theorem aO.fwd {G':aZ}{v:Value}{x:FV}(h:aO (tP bh loc mp) w v x)(hi:G'.bh=bh)(hl:∀o b,loc o=some b->G'.loc (Ff ρ o)=some b)(hm:∀o b,mp o=some b->G'.mp (Ff ρ o)=some b):aO G' w v (x.nm ρ):=by
 induction h with
 |p v x h=>exact .p v x (hi▸h)
 |agg cs xs hn _ ih=>refine .agg cs (FV.JE ρ xs) (by rw[pz];exact hn) λi c x h1 h2=>?_;rw[oo]at h2;grind
 |eS cs xs hn _ ih=>refine .eS cs (FV.JE ρ xs) (by rw[pz];exact hn) λi c x h1 h2=>?_;rw[oo]at h2;grind
 |ptr o off b h=>exact .ptr _ off b (hl o b h)
 |gi t T bI xs a c h1 h2=>refine .gi t T bI xs a c (hi▸h1) (h2.imp id λ⟨b,off,e1,e2,e3⟩=>?_);cases e3
 |full xs a h=>exact .full xs a (hi▸h)
 |fn f fs cs first captured hn hn' _ _ ih Gr=>refine .fn f fs cs (FV.JE ρ first) (FV.JE ρ captured) (by rw[pz];exact hn) (by rw[pz];exact hn') (λi c x h1 h2=>?_) λi c x h1 h2=>?_;rw[oo]at h2;grind;rw[oo]at h2;grind
 |lM l k h=>cases h
 |fT o T bI n c b h1 h2 h3 h4=>cases h2
 |sY o base T bI n c b off h1 h2 h3 h4=>cases h2
 |gB o base off b h=>exact .gB _ base off b (hl o b h)
 |fu o b h=>exact .fu _ b (hm o b h)
 |zo q r h=>cases h
 |dy v=>exact .dy v
theorem aO.back (hi:∀b o,G.bh b o->bh b o)(hl:∀o b,gv o N=true->G.loc (Ff ρ o)=some b->loc o=some b)(hm:∀b,G.mp (Ff ρ m)=some b->mp m=some b){v:Value}{y:FV}(h:aO G w v y):∀x:FV,x.only N m=true->y=x.nm ρ->aO (tP bh loc mp) w v x:=by
 have hr:∀{v:Value}{x:AV},dh G.bh w v x->dh bh w v x:=λh=>h.keep hi (λ_ _ _ _ h=>h) (.refl _ _);induction h with
 |p v x h=>intro z hz e;cases z<;>simp only[FV.nm,reduceCtorEq,FV.p.injEq]at e;subst e;exact .p v _ (hr h)
 |agg cs xs hn _ ih=>intro z hz e;cases z<;>simp only[FV.nm,reduceCtorEq,FV.agg.injEq]at e;rename_i zs;subst e;refine .agg cs zs (by rw[pz]at hn;exact hn) λi c x h1 h2=>?_;exact ih i c (x.nm ρ) h1 (by rw[oo,h2];rfl) x (oH hz h2) rfl
 |eS cs xs hn _ ih=>intro z hz e;cases z<;>simp only[FV.nm,reduceCtorEq,FV.eS.injEq]at e;rename_i zs;subst e;refine .eS cs zs (by rw[pz]at hn;exact hn) λi c x h1 h2=>?_;exact ih i c (x.nm ρ) h1 (by rw[oo,h2];rfl) x (oH hz h2) rfl
 |ptr o off b h=>intro z hz e;cases z<;>simp only[FV.nm,reduceCtorEq,FV.ptr.injEq]at e;obtain⟨rfl,rfl⟩:=e;exact .ptr _ _ b (hl _ b hz h)
 |gi t T bI xs a c h1 h2=>intro z hz e;cases z<;>simp only[FV.nm,reduceCtorEq]at e;cases hz
 |full xs a h=>intro z hz e;cases z<;>simp only[FV.nm,reduceCtorEq,FV.full.injEq]at e;subst e;exact .full _ a (hr h)
 |fn f fs cs first captured hn hn' _ _ ih Gr=>intro z hz e;cases z<;>simp only[FV.nm,reduceCtorEq,FV.fn.injEq]at e;rename_i g zs zs';obtain⟨rfl,rfl,rfl⟩:=e;simp only[FV.only]at hz;split at hz;rename_i h1;refine .fn f fs cs zs zs' (by rw[pz]at hn;exact hn) (by rw[pz]at hn';exact hn') (λi c x h2 h3=>?_) λi c x h2 h3=>?_;exact ih i c (x.nm ρ) h2 (by rw[oo,h3];rfl) x (oH h1 h3) rfl;exact Gr i c (x.nm ρ) h2 (by rw[oo,h3];rfl) x (oH hz h3) rfl;grind
 |fu o b h=>intro z hz e;cases z<;>simp only[FV.nm,reduceCtorEq,FV.fu.injEq]at e;subst e;obtain rfl:=aK hz;exact .fu _ b (hm b h)
 |dy v=>intro z hz e;cases z<;>simp only[FV.nm,reduceCtorEq]at e;exact .dy v
 |_=>intro z hz e;cases z<;>simp only[FV.nm,reduceCtorEq]at e;cases hz
end
section
variable {E:Env}{G:aZ}{S:ag}{a:Act}{w:World}{o:Oper}
theorem bp.ahr (hs:bp E G S a w){w':World}(D:Nat->Prop)(hD:∀k,D k->∃o cells,G.loc o=some k/\Qv.getObj S.aD o=some cells/\(∃cs T fr,w.heap[k]?=some (.cells cs T fr))/\(∀cs T fr,w.heap[k]?=some (.cells cs T fr)->∃cs',w'.heap[k]?=some (.cells cs' T fr)/\cs'.size=cs.size)/\∀(i:Nat)(x:FV),cells[i]?=some x->∃c,w'.cell? ⟨k,i,none⟩=some c/\aO {G with bh:=λb o=>G.bh b o\/(w.heap.size<=b/\b<w'.heap.size)} w' c x)(hos:w'.os=w.os)(OS:w'.tape=w.tape)(hout:w'.output=w.output)(hsz:w.heap.size<=w'.heap.size)(hblk:∀k,k<w.heap.size->¬D k->w'.heap[k]?=w.heap[k]?):bp E {G with bh:=λb o=>G.bh b o\/(w.heap.size<=b/\b<w'.heap.size)} S a w':=by
 have BX:∀k i,G.bh k i->¬D k:=λk i h d=>by obtain⟨o,cells,h1,-⟩:=hD k d;exact((hs.gD o k h1).2.2 i).1 h
 have hcell:∀k i,k<w.heap.size->¬D k->w'.cell? ⟨k,i,none⟩=w.cell? ⟨k,i,none⟩:=λk i h1 h2=>by unfold World.cell?;grind
 have aeq:∀k i,k<w.heap.size->w'.frozen? ⟨k,i,none⟩=w.frozen? ⟨k,i,none⟩:=λk i h1=>by by_cases h2:D k;obtain⟨o,cells,-,-,⟨cs,T,fr,hb⟩,h3,-⟩:=hD k h2;obtain⟨cs',hb',-⟩:=h3 cs T fr hb;simp[World.frozen?,hb,hb'];unfold World.frozen?;grind
 have others:fU w w':=λk o hk ho=>by rw[hblk k (bq.1 hk).1 (λd=>by obtain⟨o',cells,-,-,⟨cs,T,fr,hb⟩,-⟩:=hD k d;rw[hb]at hk;obtain rfl:=ak hk;simp[Obj.isCells]at ho)];exact hk
 have keep:∀v x,aO G w v x->aO {G with bh:=λb o=>G.bh b o\/(w.heap.size<=b/\b<w'.heap.size)} w' v x:=λv x hv=>hv.keep (λb o hi=>.inl hi) (λk o c hi hc=>by rw[hcell k o (hs.fo k o hi) (BX k o hi)];exact hc) (others.oV _) (λ_ _ e=>e) (λ_ _ e=>e);have KM:∀o r,G.row o=some r->¬D r:=λo r h d=>by obtain⟨o',cells,h1,-⟩:=hD r d;exact(hs.iY.row o r h).2.2.2.1 o' h1
 refine⟨⟨hos.trans hs.kept.os,OS.trans hs.kept.tape,hout.trans hs.kept.output,bL hs.kept.size hsz,λk hk hk'=>?_,λk c1 T1 f1 hk q=>?_⟩,hs.size,hs.ext'.keep rfl rfl rfl keep others (Hv:=.more rfl rfl rfl rfl (λb i hi=>hi.imp id λhi=>hi.1) (λb hi=>.inl hi) λ_ _ h=>.inl h),?_,?_,?_,λi hi=>keep _ _ (hs.tmps i hi),λo cs2 ho=>?_,λo b2 ho=>?_,hs.eU,λo t b2 r q1 q2=>hs.ck o t b2 r q1 q2,λt b2 s e T2 h=>?_,hs.dR⟩;rw[hblk k (en hk hs.kept.size) (λd=>by obtain⟨o,cells,h1,-⟩:=hD k d;exact E.Mv (hs.gD o k h1).2.1 hk hk' rfl)];exact hs.kept.block k hk hk';obtain⟨c2,q1,q2⟩:=hs.kept.shape k c1 T1 f1 hk q;grind;refine hs.iY.keep rfl rfl (λo bs q=>⟨q,rfl,rfl⟩) (λo bs _ q=>q) (λ_ _ e=>e) hsz (λo bs b2 q q2 e=>hblk b2 (hs.gD o b2 e).1 (λd=>?_)) (λo r e=>hblk r (hs.iY.row o r e).2.1 (KM o r e)) (λo r i e hi=>hi.elim id λhi=>absurd (hs.iY.row o r e).2.1 oO) (λ_ _ _ _ e=>e) (λ_ _ t q _ e=>⟨t,q,e⟩);obtain⟨o',cells,h1,h2,-⟩:=hD b2 d;have :=hs.eU o o' b2 e h1;grind;rintro k o (hi|⟨hi,_⟩);exact hs.mX k o hi;exact .inr (bL hs.kept.size hi);rintro k o (hi|⟨_,hi⟩);exact en (hs.fo k o hi) hsz;omega;obtain⟨b2,h2,h3⟩:=hs.aD o cs2 ho;by_cases hd:D b2;obtain⟨o',cells,h4,h5,-,-,h6⟩:=hD b2 hd;have :=hs.eU o o' b2 h2 h4;grind;exact⟨b2,h2,λi y hy=>let⟨c,h4,h5⟩:=h3 i y hy;⟨c,by rw[hcell b2 i (hs.gD o b2 h2).1 hd];exact h4,keep _ _ h5⟩⟩;obtain⟨k1,k2,k3⟩:=hs.gD o b2 ho;grind;obtain⟨k1,k2,⟨c1,f1,kt,ku⟩,k3⟩:=hs.fS t b2 s e T2 h;have him:∀i,¬(G.bh b2 i)->¬(G.bh b2 i\/(w.heap.size<=b2/\b2<w'.heap.size)):=by grind
 by_cases hd:D b2;obtain⟨o',cells,-,-,-,h3,-⟩:=hD b2 hd;obtain⟨cs',hb',afn⟩:=h3 c1 T2 f1 kt;refine⟨en k1 hsz,k2,⟨_,_,hb',ku⟩,λi hi hi'=>?_⟩;obtain⟨⟨c,k4⟩,k5,k6⟩:=k3 i hi hi';refine⟨?_,by grind,him i k6⟩;have hlt:i<c1.size:=by simp only[World.cell?,kt]at k4;exact(bq.1 (by simpa using k4)).1
 exact⟨cs'[i]' oO,by simp[World.cell?,hb',afn▸hlt]⟩;refine⟨en k1 hsz,k2,⟨c1,f1,by grind,ku⟩,λi hi hi'=>?_⟩;grind
theorem zD {o:Nat}:∀{aD:List (Nat×List FV)},o∈ji aD↔∃cells,Qv.getObj aD o=some cells
 |[]=>by simp[ji,Qv.getObj]
 |(u,c)::r=>by simp only[ji,aC,Qv.getObj];split;simp_all;rename_i h;have :=bJ h;rw[zD];grind
theorem El {n:Nat}:∀{l:List Nat},Hj n l=true↔n∉l
 |[]=>by simp[Hj]
 |d::l=>by unfold Hj;split;simp_all;rename_i h;have :=bJ h;rw[El,aC,not_or];grind
theorem Bc {ρ:List (Nat×Nat)}{o:Nat}:∀{aD:List (Nat×List FV)},o∈ji aD->Ff ρ o∈Hl ρ aD|(u,c)::r,h=>by rcases aC.1 h with rfl|h;exact .head _;exact .tail _ (Bc h)
theorem KN {ρ:List (Nat×Nat)}:∀{aD:List (Nat×List FV)},Mn (Hl ρ aD)=true->∀{o o':Nat},o∈ji aD->o'∈ji aD->Ff ρ o=Ff ρ o'->o=o'|(u,c)::r,h,o,o',h1,h2,e=>by simp only[Hl,Mn]at h;split at h;rename_i hn;have hn:=El.1 hn;rcases aC.1 h1 with rfl|g1;rcases aC.1 h2 with rfl|h2;rfl;exact absurd (e▸Bc h2) hn;rcases aC.1 h2 with rfl|h2;exact absurd (e▸Bc g1) hn;exact KN h g1 h2 e;cases h
theorem rX {N:List Nat}{m:Nat}:∀{aD:List (Nat×List FV)},uH N m aD=true->∀{o:Nat}{cells:List FV},Qv.getObj aD o=some cells->iy o=true/\FV.xJ N m cells=true/\cells≠[]
 |(u,[])::r,h,_,_,_=>by cases h
 |(u,c::cs)::r,h,o,cells,hc=>by unfold uH at h;split at h;rename_i h1 h2;simp only[Qv.getObj]at hc;split at hc;rename_i hb;obtain rfl:=aK hb;grind;exact rX h hc;cases h
theorem ye {ρ:List (Nat×Nat)}:∀{aD:List (Nat×List FV)},zu S ρ aD->∀{o:Nat}{cells:List FV},Qv.getObj aD o=some cells->Qv.getObj S.aD (Ff ρ o)=some (FV.JE ρ cells)|(u,c)::r,h,o,cells,hc=>by simp only[Qv.getObj]at hc;split at hc;rename_i hb;obtain rfl:=aK hb;obtain rfl:=ak hc;exact h.1;exact ye h.2 hc
theorem RT {b:Nat}{o o':Obj}:(w.putObj b o).putObj b o'=w.putObj b o':=by unfold World.putObj;simp
end
section
variable {E:Env}{G:aZ}{S:ag}{a:Act}{w:World}{o:Oper}
theorem jD (G:aZ)(w:World):aO G w undef (.p (.eS [])):=.p _ _ (dh.eS (bh:=G.bh) (w:=w) [] [] rfl (λi c x h _=>by grind))
theorem sS (hs:bp E G S a w){dst:Option Nat}{r:fN}{v:Value}{w':World}(hb:Below w.heap.size w w')(hok:nH G.bh w.heap.size w' v r)(Yf:aen S dst r:=by trivial):∃G',bp E G' (S.got dst r) (a.put dst v) w':=by
 cases r with
 |own rest T bI xss=>
  cases dst with
  |none=>exact⟨_,hs.ext hb⟩
  |some d0=>
   have hdn:=Yf d0 rfl;simp only[ag.got];generalize hd:S.off+d0=d at hdn;obtain⟨b,c,cs,fr,us,rfl,h1,h2,h3,h4,h5,h6,h7,h8,h9,h10⟩:=hok;have hg0:=(hs.Oy hb λb' _=>b'≠b).kill d;have hkeep:∀{u:Value}{y:AV},dh (Yk G.bh w.heap.size b) w' u y->dh (λb' o=>G.bh b' o\/(w.heap.size<=b'/\b'<w'.heap.size/\b'≠b)) w' u y:=λh=>h.uD (λb' o c hi hc=>⟨hi.imp id λh=>⟨h.1,World.block_lt_of_cell? w' _ hc,h.2⟩,hc⟩) λb' es k hi hb'=>⟨hi.imp id λh=>⟨h.1,(bq.1 hb').1,h.2⟩,hb'⟩;have hfl:xss.flatten.length=xss.length*bI:=gG λzs hz=>(h5 zs hz).1;have hg1:=hg0.afi (d:=d) (b:=b) (cells:=aI xss.flatten) hdn (by simp[aZ.free]) (kR _ _) (λo h=>by simp only[aZ.free]at h;split at h;cases h;have :=(hs.gD o _ h).1;omega) (λt' r h=>by simp only[aZ.free]at h;split at h;cases h;have :=(hs.fS t' _ r.1 r.2.1 r.2.2 h).1;omega) (λo h=>by simp only[aZ.free]at h;split at h;cases h;have :=(hs.iY.row o _ h).2.1;omega) (λes k e=>by grind) h2 (bL hs.kept.size h1) (λi=>⟨λh=>by rcases h with h|⟨-,-,h⟩;have :=hs.fo _ _ h;omega;omega,h7 i⟩) (λi x hx=>by
    rw[uM]at hx;cases hq:xss.flatten[i]?with
    |none=>grind
    |some y=>rw[hq]at hx;obtain rfl:=ak hx;obtain⟨u,q1,q2⟩:=h9 i y hq;exact⟨u,q1,.p _ _ (hkeep q2)⟩)
   have hg2:=hg1.xZ (t:=d) (B:=b) (s:=xss.length*bI) (e:=c*bI) (T:=T) (uL _ d) h2 (bL hs.kept.size h1) ⟨cs,fr,h6,trivial⟩ (λo h=>by simp only[aZ.free]at h;split at h;rename_i e;subst e;refine⟨rfl,kR _ _,λcells hc=>?_⟩;simp only[Qv.getObj,iN]at hc;obtain rfl:=ak hc;rw[iQ,hfl];have :=(hs.gD o _ h).1;omega) (λt' r h=>by simp only[aZ.free]at h;split at h;cases h;have :=(hs.fS t' _ r.1 r.2.1 r.2.2 h).1;omega) (λo h=>by simp only[aZ.free]at h;split at h;cases h;have :=(hs.iY.row o _ h).2.1;omega) (λi hi hi'=>⟨h8 i hi',h7 i,λh=>by rcases h with h|⟨-,-,h⟩;have :=hs.fo _ _ h;omega;omega⟩);refine⟨_,hg2.put (some d0) (x:=ab6 rest (.fT d T bI)) ?_⟩;have Rw:aO {(aZ.free {G with bh:=λb' o=>G.bh b' o\/(w.heap.size<=b'/\b'<w'.heap.size/\b'≠b)} d)with loc:=λo=>if o=d then some b else(aZ.free {G with bh:=λb' o=>G.bh b' o\/(w.heap.size<=b'/\b'<w'.heap.size/\b'≠b)} d).loc o,tail:=λt'=>if t'=d then some (b,xss.length*bI,c*bI,T)else(aZ.free {G with bh:=λb' o=>G.bh b' o\/(w.heap.size<=b'/\b'<w'.heap.size/\b'≠b)} d).tail t'} w' (.slice (some ⟨b,0,none⟩) xss.length c) (.fT d T bI):=.fT d T bI xss.length c b (by simp) (by simp) h4 h3;cases rest with
   |none=>exact Rw
   |some r=>
    obtain⟨g1,g2⟩:=h10 r rfl;refine .eS (_::us) (_::aI r) (by simp[iQ,g1]) λi u x q1 q2=>?_;cases i with
    |zero=>simp at q1 q2;subst q1;subst q2;exact Rw
    |succ i=>
     simp only[mb]at q1 q2;rw[uM]at q2;cases hq:r[i]?with
     |none=>rw[hq]at q2;cases q2
     |some y=>rw[hq]at q2;obtain rfl:=ak q2;exact .p _ _ (hkeep (g2 i u y q1 hq))
 |val x=>exact⟨_,(hs.ext hb).put dst (nH.RO (r:=.val x) hok)⟩
 |vf x=>exact⟨_,(hs.ext hb).put dst (nH.RO (r:=.vf x) hok)⟩
 |fresh T bI xs=>
  cases dst with
  |none=>exact⟨_,hs.ext hb⟩
  |some d0=>simp only[ag.got];generalize hd:S.off+d0=d;obtain⟨ad,c,rfl,⟨rfl,rfl,h⟩|⟨b,off,cs,fr,rfl,h1,h2,h3,hty,h4,h5⟩⟩:=hok;have hr:dh (λb o=>G.bh b o\/(w.heap.size<=b/\b<w'.heap.size)) w' (.slice ad ([]:List (List AV)).length 0) (.sl []):=h.uD (λb o c hi hc=>⟨hi.imp id λh=>⟨h,World.block_lt_of_cell? w' _ hc⟩,hc⟩) λb es k hi hb=>⟨hi.imp id λh=>⟨h,(bq.1 hb).1⟩,hb⟩;exact⟨_,((hs.ext hb).kill d).put (some d0) (x:=.gi d T bI []) (.gi d T bI [] ad 0 hr (.inl ⟨rfl,rfl⟩))⟩;have hg:=((hs.Oy hb λb' o=>¬(b'=b/\off+xs.length*bI<=o/\o<off+c*bI)).kill d).zB (t:=d) (B:=b) (s:=off+xs.length*bI) (e:=off+c*bI) (T:=T) (uL _ d) h2 (bL hs.kept.size h1) ⟨cs,fr,hty,trivial⟩ (λo h=>by simp only[aZ.free]at h;split at h;cases h;have :=(hs.gD o _ h).1;omega) (λt' r h=>by simp only[aZ.free]at h;split at h;cases h;have :=(hs.fS t' _ r.1 r.2.1 r.2.2 h).1;omega) (λo h=>by simp only[aZ.free]at h;split at h;cases h;have :=(hs.iY.row o _ h).2.1;omega) (λi hi hi'=>by obtain⟨g1,g2⟩:=h4 i hi hi';refine⟨g1,g2,?_⟩;rintro(h|⟨-,-,h⟩);have :=hs.fo _ _ h;omega;omega);refine⟨_,hg.put (some d0) (x:=.gi d T bI xs) (.gi d T bI xs _ c ?_ (.inr ⟨b,off,rfl,h3,by simp⟩))⟩;exact h5.uD (λb o c hi hc=>⟨hi.imp id λh=>⟨h.1,World.block_lt_of_cell? w' _ hc,h.2⟩,hc⟩) λb es k hi hb=>⟨hi.imp id λh=>⟨h.1,(bq.1 hb).1,h.2⟩,hb⟩
theorem wp_make (hs:bp E G S a w){t:TypeId}{len cap:Operand}{d0:Nat}{K:ag->Prop}(ho:o.op=.makeSlice t len cap)(VW:o.dst=some d0)(h:RC E.C S t d0 (S.val len) (S.val cap) K){next:Act->World->Prop}{Q:Exit->Act->World->Prop}(hn:∀S' a' w',K S'->mY E S' a' w'->next a' w'):AY E o a w next Q:=by
 have hlv:=aO.val hs len;have hcv:=aO.val hs cap;generalize S.val len=vl at h hlv;generalize S.val cap=vc at h hcv;unfold RC at h;split at h;rename_i e _ ht;have hu:=(E.C.ok ht).slice;split at h;rename_i bytes sh z hj;have hok:=E.C.ok hj;split at h;rename_i k n k' n';obtain⟨m,rfl,rfl,hb,h63,h⟩:=h;rw[jF]at h;obtain⟨hdn,cs,rfl,h⟩:=h;have e1:=hlv.fL;have e2:=hcv.fL;obtain⟨inf,z',hi,hsz,hby,hz,Gz⟩:=hok.info';simp only at hsz hby Gz;have aj8:z'.cells=#[z]:=by apply kf.1;rw[Gz]
 have hrun:=run_make (P:=E.C.P) w t e inf z' hu hi hz k k' (m:Int) (m:Int) oO oO (by grind) oO;rw[aj8,hsz,oZ,rY]at hrun;have hmc:madeCells #[z] m=(List.replicate m z).toArray:=by apply kf.1;apply gU;intro i;simp only[madeCells,ng,aJ,Array.toList_range,List.getElem?_replicate];by_cases hi:i<m;grind;simp_all
 rw[hmc]at hrun;generalize hd:S.off+d0=d at h hdn;obtain⟨G2,g1,g2,g3,g4,g5,g6,g7,g8⟩:=tX hs d hdn (List.replicate m z) (List.replicate m (FV.gT z)) e λi x hx=>by rw[List.getElem?_replicate]at hx;split at hx;rename_i hi;obtain rfl:=ak hx;exact⟨z,by simp_all,tW _ _ _⟩;simp_all
 have hg:=g1.xZ (t:=d) (B:=w.heap.size) (s:=m*1) (e:=m*1) (T:=e) g4 (by simp) hs.kept.size (we w _ e) (λo q=>by
  have :o=d:=by grind
  subst this;refine⟨rfl,kR _ _,λcells hc=>?_⟩;simp only[Qv.getObj,iN]at hc;obtain rfl:=ak hc;rw[FV.fE,aj,List.length_replicate,rY]) (λt' r q=>g5 t' r q) (λo q=>g7 o q) (λi h1 h2=>oO);refine wp_value (v:=.slice (some ⟨w.heap.size,0,none⟩) m m) (w':=w.alloc (.cells (List.replicate m z).toArray e)) ?_ ?_;simp[execOp,ho,e1,e2,hrun];rw[VW];exact hn _ _ _ h ⟨_,hg.put (some d0) (x:=.fT d e 1) (.fT d e 1 m m w.heap.size g2 (by simp) (av _) oO)⟩;simp_all;rename_i j _ hj;have hok:=E.C.ok hj;split at h;rename_i k n k' n';obtain⟨m,rfl,rfl,hb,h63,h⟩:=h;rw[lu]at h;have e1:=hlv.fL;have e2:=hcv.fL;obtain⟨inf,z',hi,hsz,hby,hz,Gz⟩:=hok.info';have hrun:=run_make (P:=E.C.P) w t e inf z' hu hi hz k k' 0 (m:Int) oO oO (by grind) oO;rw[oZ,show(0:Int).toNat=0 from rfl]at hrun;have hsize:(madeCells z'.cells (m*inf.size)).size=m*j.size:=by rw[size_madeCells,hsz]
 generalize madeCells z'.cells (m*inf.size)=us at hrun hsize;obtain⟨G',hg⟩:=sS hs (dst:=o.dst) (r:=.fresh e j.size []) (v:=.slice (some ⟨w.heap.size,0,none⟩) 0 m) (w':=w.alloc (.cells us e)) ((Below.refl _ _).alloc (av _) _) ⟨some ⟨w.heap.size,0,none⟩,m,rfl,.inr ⟨w.heap.size,0,us,(0,0),rfl,av _,(bq.1 (World.alloc_heap_new w _)).1,(λys hy=>by cases hy),World.alloc_heap_new w _,λi hi hi'=>by simp_all,.Uj _ _⟩⟩;refine wp_value (v:=.slice (some ⟨w.heap.size,0,none⟩) 0 m) (w':=w.alloc (.cells us e)) ?_ (hn _ _ _ ?_ ⟨G',hg⟩);simp[execOp,ho,e1,e2,hrun];rw[VW];exact h;grind;grind;simp_all
theorem wp_evAppend (hs:bp E G S a w){d:Nat}{K:ag->Prop}{x y:Operand}{t u:TypeId}(ho:o.op=.call ⟨.builtin .append,#[x,y],#[t,u]⟩)(hd:o.dst=some d)(h:tc E.C t u d S (S.val x) (S.val y) K){next:Act->World->Prop}{Q:Exit->Act->World->Prop}(hn:∀S' a' w',K S'->mY E S' a' w'->next a' w'):AY E o a w next Q:=by
 have hx:=aO.val hs x;have hy:=aO.val hs y;generalize S.val x=vx at h hx;generalize S.val y=vy at h hy;unfold tc at h;split at h
 ·rename_i e _ ui ht hui;have JN:=(E.C.ok ht).slice;obtain⟨dd,YT,hsh⟩:=(E.C.ok hui).xS;split at h;exact h.elim;rename_i yc;have hdk:∀k,dd≠.int k:=λk e=>by rw[<-hsh,e]at yc;simp[shapeOf,Shape.Fc]at yc
  split at h;exact h.elim;rename_i j hj;have hok:=E.C.ok hj;split at h;exact h.elim;rename_i ys hys;have fin:∀{k:Nat}{xs:List (List AV)}{ad:Option Addr}{c:Nat},a.eval x=.slice ad xs.length c->dh G.bh w (.slice ad xs.length c) (.sl xs)->(∀zs,zs∈xs->zs.length=j.size)->((xs=[]/\c=0)\/(ys≠[]/\c=xs.length)\/∃b off,ad=some ⟨b,off,none⟩/\G.tail k=some (b,off+xs.length*j.size,off+c*j.size,e))->(∀zs,zs∈ys->zs.length=j.size)->(xs.length+ys.length)*j.bytes<=2^47->j.bytes≠0->K ((S.kill k).put (some d) (.gi k e j.size (xs++ys)))->AY E o a w next Q:=λ{k xs ad c} ev hr JM hroom yb hb hb0 hK=>by
   obtain⟨news,n1,n2,n3⟩:=hy.items (P:=E.C.P) (e:=j.size) hys yb;obtain⟨_,_,hv,hle,-⟩:=hr.kP;have afo:xs.length<=c:=by injection hv with e1 e2 e3;omega
   obtain⟨v',w',G',r1,r2,r3⟩:=OV (ty:=o.type) hs JN YT hdk hok hr JM yb afo hroom n1 n2 n3 hb hb0;refine wp_value (v:=v') (w':=w') ?_ (hn _ _ _ hK ⟨G',?_⟩);simp[execOp,ho,resolve,invoke,builtin,ev,r1];rw[hd];exact r2.put (some d) r3
  split at h;rename_i k T bI xs;split at h;rename_i he hb0 hT;obtain rfl:=aK he;obtain rfl:=aK hT;obtain⟨JM,yb,hb,zs,rfl,hK⟩:=h;generalize KL:a.eval x=v at hx;cases hx with
  |gi _ _ _ _ ad c hr hroom=>exact fin KL hr JM (hroom.imp id λ⟨b,off,e1,_,e2⟩=>.inr ⟨b,off,e1,e2⟩) yb hb (bJ hb0) hK
  exact h.elim;rename_i k T bI;split at h;rename_i he hT hb0;obtain rfl:=aK he;obtain rfl:=aK hT;have hb0:=bJ hb0;split at h;exact h.elim;rename_i xs hxs;obtain⟨hkn,hxs⟩:=iW hxs;obtain⟨n,VX,yb,hbd,zs,rfl,hK⟩:=h;obtain⟨news,n1,n2,n3⟩:=hy.items (P:=E.C.P) (e:=j.size) hys yb;generalize OY:a.eval y=vy at hy n2 n3;generalize MI:a.eval x=vv at hx;cases hx with
  |fT _ _ _ n' c b p1 p2 p3 p4=>
   have nl:news.length=ys.length*j.size:=n1.len;have YU:(aI ys.flatten).length=ys.length*j.size:=by rw[iQ];exact gG yb
   have nr:∀(i:Nat)(z:FV),(aI ys.flatten)[i]?=some z->∃u,news[i]?=some u/\aO G w u z:=λi z hz=>by
    rw[uM]at hz;have hi:i<ys.length*j.size:=by
     rw[<-gG yb];cases hq:ys.flatten[i]?with
     |none=>rw[hq]at hz;cases hz
     |some q=>exact(aG.1 hq).1
    have hq:i/j.size<ys.length:=Cr (by rw[vW];exact hi);have hr:i%j.size<(ys[i/j.size]).length:=by rw[yb _ (aT hq)];exact pn _ p4
    have hii:i/j.size*j.size+i%j.size=i:=Nat.div_add_mod' i j.size;have h1:=an hq;have h2:=an hr;have h3:=mO yb h1 h2;rw[hii]at h3;rw[h3]at hz;obtain rfl:=ak hz;obtain⟨u,e1,e2,-⟩:=n1.at_ _ _ _ _ h1 h2;rw[hii]at e1;exact⟨u,e1,.p _ _ e2⟩
   have hxl:=(hs.ck _ _ _ _ p1 p2).2.2 xs hxs;simp only at hxl;obtain rfl:n=n':=gx p4 (VX.symm.trans hxl);obtain⟨t1,t2,tt,t3⟩:=hs.fS _ _ _ _ _ p2;by_cases hc:n+ys.length<=c;have hq:n*j.size+news.length<=c*j.size:=by have :=ew j.size hc;rw[bC]at this;omega
   have hrun:=nj (P:=E.C.P) (w:=w) (ty:=o.type) (b:=b) (off:=0) JN YT hdk hok n2 (n3 w λ_ _=>rfl) hc (λq MF=>by rw[dn];obtain⟨⟨u,hu⟩,-,-⟩:=t3 (n*j.size+q) oO oO;rw[hu];rfl) (λq MF=>by rw[dn];exact(t3 (n*j.size+q) oO oO).2.1) n1.one;rw[dn]at hrun;have hg:=hs.OW (news:=news) hxs p1 p2 hq nr oO;have hex:(execOp a.eval o).run E.C.P w=.ok (.value (.slice (some ⟨b,0,none⟩) (n+ys.length) c)) (w.setCells b (n*j.size) news):=by simp[execOp,ho,resolve,invoke,builtin,MI,OY,hrun]
   refine wp_value hex (hn _ _ _ hK ⟨{G with tail:=λt=>if t=k then some (b,n*j.size+news.length,c*j.size,T)else G.tail t},?_⟩);rw[hd];refine hg.put (some d) (v:=.slice (some ⟨b,0,none⟩) (n+ys.length) c) (x:=.fT k T j.size) (.fT k T j.size (n+ys.length) c b p1 ?_ hc p4);simp only[if_true];rw[nl,bC];obtain⟨olds,ol,or',of'⟩:=Ba (P:=E.C.P) hs hxs p1 p2;obtain⟨rest,z,hz,qe,hrun⟩:=iM (P:=E.C.P) (w:=w) (ty:=o.type) (news:=news) (olds:=olds) JN YT hdk hok n2 n3 of' hc hbd hb0;have hcap:n+ys.length<=grownCap w (n+ys.length) c T:=grownCap_ge w _ _ _;generalize hcg:grownCap w (n+ys.length) c T=cap at*;have hrl:rest.size=(cap-(n+ys.length))*j.size:=by rw[qe,size_zeroCells,hz]
   have mG:(olds++news++rest.toList).length=cap*j.size:=by simp only[ay,ol,nl,jj,hrl,<-bC];rw[show n+ys.length+(cap-(n+ys.length))=cap from oO]
   obtain⟨G',g1,g2,g3⟩:=zC hs.drew k hkn (zs:=xs++aI ys.flatten) (cells:=olds++news++rest.toList) (s:=(n+ys.length)*j.size) (cap:=cap*j.size) (e:=T) (by rw[ay,hxl,YU,bC]) mG (λi z hz=>by have hk:∀{v:Value}{z:FV},aO G w v z->aO G {w with drawn:=w.drawn+1} v z:=λh=>h.keep (λ_ _ h=>h) (λ_ _ _ _ h=>h) (λ_ _ _ _ h=>h) (λ_ _ h=>h) (λ_ _ h=>h);by_cases hi:i<xs.length;rw[cV hi]at hz;obtain⟨u,h2,h3⟩:=or' i z hz;exact⟨u,by rw[bl,cV oO];exact h2,hk h3⟩;rw[eu oO]at hz;obtain⟨u,h2,h3⟩:=nr _ z hz;have Ye:=(aG.1 h2).1;refine⟨u,?_,hk h3⟩;rw[cV (by rw[ay];omega),eu oO,<-h2];congr 1;omega);have hW:w.drew.alloc (.cells (olds.toArray++news.toArray++rest) T)=({w with drawn:=w.drawn+1}:World).alloc (.cells (olds++news++rest.toList).toArray T):=by
    have :olds.toArray++news.toArray++rest=(olds++news++rest.toList).toArray:=by apply kf.1;simp
    rw[this];rfl
   rw[hW]at hrun;refine wp_value (v:=.slice (some ⟨w.heap.size,0,none⟩) (n+ys.length) cap) (w':=({w with drawn:=w.drawn+1}:World).alloc (.cells (olds++news++rest.toList).toArray T)) ?_ (hn _ _ _ hK ⟨G',?_⟩);simp[execOp,ho,resolve,invoke,builtin,MI,OY]at hrun⊢;rw[hrun];rfl;rw[hd];exact g1.put (some d) (v:=.slice (some ⟨w.heap.size,0,none⟩) (n+ys.length) cap) (x:=.fT k T j.size) (.fT k T j.size (n+ys.length) cap w.heap.size g2 g3 hcap p4)
  exact h.elim;split at h;rename_i hb0;obtain⟨yb,hb,hK⟩:=h;rw[lu]at hK;generalize KL:a.eval x=v at hx;cases hx with
  |full _ ad hr=>exact fin (k:=S.off+d) KL hr (by simp) (.inl ⟨rfl,rfl⟩) yb (by simpa using hb) (bJ hb0) (by simpa using hK)
  exact h.elim;split at h;rename_i hb0;obtain⟨hne,JM,yb,hb,hK⟩:=h;rw[lu]at hK;obtain⟨zs,rfl,hK⟩:=hK;generalize KL:a.eval x=v at hx;cases hx with
  |full _ ad hr=>exact fin (k:=S.off+d) KL hr JM (.inr (.inl ⟨hne,rfl⟩)) yb hb (bJ hb0) hK
  exact h.elim;exact h.elim
 exact h.elim
theorem Em {d o:Nat}{ys:List AV}{cells:List FV}:∀{l:List (Nat×List FV)},Qv.getObj (DZ d ys l) o=some cells->o≠d/\∃cs,Qv.getObj l o=some cs/\cells=FV.Rx d ys cs:=by
 intro l;induction l with
 |nil=>intro h;cases h
 |cons p l ih=>
  obtain⟨u,i⟩:=p;intro h;simp only[DZ]at h;split at h;rename_i hb;obtain rfl:=aK hb;obtain⟨h1,cs,h2,h3⟩:=ih h;refine⟨h1,cs,?_,h3⟩;simp only[Qv.getObj];have :Nat.beq u o=false:=by cases hb:Nat.beq u o;rfl;simp_all
  grind;rename_i hb;simp only[Qv.getObj]at h⊢;grind
theorem Ph {ys:List AV}(h:tO ys=true):∀y,y∈ys->y.one=true:=by
 induction ys with
 |nil=>simp
 |cons x xs ih=>simp only[tO]at h;grind
theorem lN.Mg {G G':aZ}{S:ag}{w:World}{d:Nat}{ys:List AV}(hi:∀b i es k,w.heap[b]?=some (.map es k)->(∃o,G'.mp o=some b)->G'.bh b i->G.bh b i)(hi':∀b,G.bh b 0->G'.bh b 0)(hmp:G'.mp=G.mp)(hit:G'.it=G.it)(hl:∀o b,G'.loc o=some b->G.loc o=some b)(ht:∀q r,G.tail (.inr q)=some r->G'.tail (.inr q)=some r:=by first|exactλ_ _ h=>h|exactλ_ _ h=>(aa (λe=>nomatch e)).trans h):lN (FV.fz d ys) G G' S (S.Mg d ys) w:=by refine⟨λ_=>rfl,λo l' h=>?_,λq x h=>⟨h,λr hr=>hit▸hr⟩,λ_ _ h=>hmp▸h,λ_ _ h=>hit▸h,hi,hi',λo b h=>.inl (hl o b h),ht⟩;obtain⟨l,h1,h2⟩:=vU h;grind
theorem bp.aey (hs:bp E G S a w){d:Nat}{cells:List FV}{ys:List AV}(hdn:iy d=false)(hc:Qv.getObj S.aD d=some cells)(hy:FV.fQ cells=some ys)(h1:tO ys=true):∃G',bp E G' (S.Mg d ys) a w/\∀v x,aO G w v x->aO G' w v (x.fz d ys):=by
 obtain⟨B,hB,hcell⟩:=hs.aD d cells hc;obtain⟨OZ,DU,hl3⟩:=hs.gD d B hB;obtain⟨hlen,uJ⟩:=FV.iV hy;let G':aZ:={G with bh:=λb o=>G.bh b o\/(b=B/\o<ys.length),loc:=λo=>if o=d then none else G.loc o};have hone:=Ph h1;have uK:∀o b,G'.loc o=some b->o≠d/\G.loc o=some b:=by grind
 have up:∀v x,aO G w v x->aO G' w v (x.fz d ys):=λv x hv=>by refine hv.fz (B:=B) (λb o h=>.inl h) (λb h=>by grind) (λj y hj=>?_) (λo b hne h=>by grind) (λ_ _ h=>h);obtain⟨x,hx,hxy⟩:=uJ j y hj;obtain⟨c,h2,h3⟩:=hcell j x hx;exact⟨hone y (bP hj),.inr ⟨rfl,(aG.1 hj).1⟩,c,h2,(h3.eW hxy).keep (λb o h=>.inl h) (λ_ _ _ _ h=>h) (.refl _ _)⟩
 have YV:∀b i es n,b=B->i<ys.length->w.heap[b]?=some (.map es n)->False:=λb i es n e hi hb=>by subst e;obtain⟨x,hx,-⟩:=uJ i _ (an hi);obtain⟨c,h2,-⟩:=hcell i x hx;rw[BW hb]at h2;cases h2
 refine⟨G',⟨hs.kept,hs.size,hs.ext'.move (S':=S.Mg d ys) (FV.fz d ys) rfl rfl rfl up (.refl _) (.Mg (λb i es n hb _ h=>h.elim id λh=>(YV b i es n h.1 h.2 hb).elim) (λ_ h=>.inl h) rfl rfl (λo b h=>(uK o b h).2)),?_,?_,?_,λi hi=>up _ _ (hs.tmps i hi),λo cs ho=>?_,λo b ho=>?_,λo o' b h h'=>hs.eU o o' b (uK _ _ h).2 (uK _ _ h').2,λo t b r h h'=>lB.mono (hs.ck o t b r (uK _ _ h).2 h') (λbs q=>⟨bs,q⟩) (λcs q=>?_),λt b s e T h=>?_,hs.dR⟩,up⟩;refine hs.iY.keep rfl rfl (λo bs q=>?_) (λo _ _ q=>?_) (λ_ _ e=>e) (av _) (λ_ _ _ _ _ _=>rfl) (λ_ _ _=>rfl) (λo r i e hi=>?_) (λ_ _ o' _ e=>(uK o' _ e).2) (λ_ _ t q _ e=>⟨t,q,e⟩);refine⟨q,?_,rfl⟩;have hne:o≠d:=λe=>by have :=(hs.iY.at_ o bs q).1;grind
 grind;cases h':Qv.getObj (DZ d ys S.aD) o with
 |none=>exact h'
 |some cs=>obtain⟨-,cs',h2,-⟩:=Em h';grind
 rcases hi with hi|⟨rfl,-⟩;exact hi;exact absurd hB ((hs.iY.row o _ e).2.2.2.1 d);rintro b o (h|⟨rfl,-⟩);exact hs.mX b o h;exact .inr (E.Hu DU hdn);rintro b o (h|⟨rfl,-⟩);exact hs.fo b o h;omega;obtain⟨hne,cs0,h2,rfl⟩:=Em ho;obtain⟨b,h3,h4⟩:=hs.aD o cs0 h2;refine⟨b,by grind,λi x hx=>?_⟩;rw[FV.uq,aJ]at hx;grind;obtain⟨hne,ho'⟩:=uK o b ho;obtain⟨k1,k2,k3⟩:=hs.gD o b ho';refine⟨k1,k2,λi=>⟨?_,(k3 i).2⟩⟩;rintro(h|⟨e,-⟩);grind;exact hne (hs.eU o d b ho' (by grind));obtain⟨-,cs0,h2,rfl⟩:=Em q;exact⟨cs0,h2,by rw[FV.uq,aj]⟩;obtain⟨k1,k2,kt,k3⟩:=hs.fS t b s e T h;refine⟨k1,k2,kt,λi hi hi'=>?_⟩;obtain⟨k4,k5,k6⟩:=k3 i hi hi';refine⟨k4,k5,?_⟩;rintro(h7|⟨rfl,hlt⟩);grind;have :=(hs.ck d t b _ hB h).2.2 cells hc;omega
theorem bp.Mg (hs:bp E G S a w){d:Nat}{cells:List FV}{ys:List AV}(hdn:iy d=false)(hc:Qv.getObj S.aD d=some cells)(hy:FV.fQ cells=some ys)(h1:tO ys=true):∃G',bp E G' (S.Mg d ys) a w:=let⟨G',h,_⟩:=hs.aey hdn hc hy h1;⟨G',h⟩
theorem yf:∀(ds:List Nat){K:ag->Prop}{S:ag},Fg ds K S->mY E S a w->∃S',K S'/\mY E S' a w|[],_,S,h,hs=>⟨S,h,hs⟩|d::ds,K,S,h,⟨G,hs⟩=>by simp only[Fg]at h;split at h;grind;rename_i cells hc;split at h;grind;rename_i ys hy;split at h;rename_i h1;exact yf ds h (hs.Mg (iW hc).1 (iW hc).2 hy h1);grind
def marksOf:List Deferred->List Nat|[]=>[]|d::ds=>match d.target with|.collected r=>r::marksOf ds|_=>marksOf ds
theorem lT (ms:List Nat):marksOf (ms.map mark)=ms:=by
 induction ms with
 |nil=>rfl
 |cons m ms ih=>simp[marksOf,ih]
def Env.push (E:Env)(a:Act):Env:={E with lX:=none,bD:=a.tmps::E.bD,fixed:=marksOf a.defers++E.fixed}
def eA (E:Env)(Y:ov):Prop:=∀(lX:Option Nat)(xs:List (Array Value))(ls:List (Nat×Loop))(fixed:List Nat)(G:aZ)(S:ag)(a:Act)(w:World)(l k:Nat)(args:List FV)(K:FV->ag->Prop)(vals:List Value),bp {E with lX:=lX,bD:=xs++E.bD,loops:=E.loops++ls,fixed:=fixed} G S a w->G.yl l=some k->Y l args K S->vals.length=args.length->(∀(i:Nat)(v:Value)(x:FV),vals[i]?=some v->args[i]?=some x->aO G w v x)->YieldAt Fence.wide 0 E.C.P k vals.toArray w λe w'=>∃v x G' S',e=.returned v/\K x S'/\bp {E with lX:=lX,bD:=xs++E.bD,loops:=E.loops++ls,fixed:=fixed} G' S' a w'/\aO G' w' v x
theorem eA.later {Y:ov}(h:eA E Y)(lX:Option Nat)(xs:List (Array Value))(ls:List (Nat×Loop))(fixed:List Nat):eA {E with lX:=lX,bD:=xs++E.bD,loops:=E.loops++ls,fixed:=fixed} Y:=by intro aj9 xs' ls' fixed' G S a w l k args K vals hs;simp only[<-bl]at hs⊢;rw[bl E.loops ls ls']at hs⊢;exact h aj9 (xs'++xs) (ls++ls') fixed' G S a w l k args K vals hs
theorem eA.push {Y:ov}(h:eA E Y)(a:Act):eA (E.push a) Y:=by have :=h.later none [a.tmps] [] (marksOf a.defers++E.fixed);simp only[aW]at this;exact this
def mC (C:Ctx)(call:iG):Prop:=∀(E:Env),E.C=C->∀(Y:ov)(g:FuncId)(args:List FV)(K:FV->ag->Prop)(G:aZ)(S:ag)(a:Act)(w:World)(vals:List Value),bp E G S a w->eA (E.push a) Y->call Y g args K S->vals.length=args.length->(∀(i:Nat)(v:Value)(x:FV),vals[i]?=some v->args[i]?=some x->aO G w v x)->(∃fn,C.P.funcs[g]?=some fn/\fn.body.isNone=false/\(fn.name== "runtime.NumGoroutine")=false)/\CallsIn Fence.wide 0 C.P g vals.toArray w λe w'=>∃v x G' S',e=.returned v/\K x S'/\bp E G' S' a w'/\aO G' w' v x
theorem Pj {P:Program}{f:FuncId}{args:Array Value}{w:World}{R:Ending->World->Prop}(h:CallsIn Fence.wide 0 P f args w R):CallsIn E.je 0 P f args w R:=by unfold Env.je;split;exact h;exact CallsIn.inRound _ h
theorem xX {P:Program}{l:Nat}{f:FuncId}{tmps:Array Value}{assign body:Code}{w:World}{R:Ending->World->Prop}(h:RoundIn Fence.wide 0 P l f tmps assign body w R):RoundIn E.je 0 P l f tmps assign body w R:=by unfold Env.je;split;exact h;exact h
theorem yg {bh:Nat->Nat->Prop}{cs:List Value}{xs:List AV}(h:cs.length=xs.length/\∀(i:Nat)(c:Value)(x:AV),cs[i]?=some c->xs[i]?=some x->dh bh w c x)(hi:bh=G.bh):cs.length=(aI xs).length/\∀(i:Nat)(c:Value)(x:FV),cs[i]?=some c->(aI xs)[i]?=some x->aO G w c x:=by
 rw[er];refine⟨by simp[h.1],λi c x hc hx=>?_⟩;rw[aJ]at hx;cases hq:xs[i]?with
 |none=>grind
 |some y=>simp[hq]at hx;subst hx;exact .p _ _ (hi▸h.2 i c y hc hq)
theorem wp_bld (hs:bp E G S a w){f:Operand}{args:Array Operand}{types:Array TypeId}{g:FuncId}{first captured:Array Value}{ob:Nat}{bs:List UInt8}{rest:List FV}{K:ag->Prop}(ho:o.op=.call ⟨.value f,args,types⟩)(hf:a.eval f=.func (.func g) first captured)(hr:(first++args.map a.eval++captured).toList.length=(FV.ptr ob 0::rest).length/\∀(i:Nat)(c:Value)(x:FV),(first++args.map a.eval++captured).toList[i]?=some c->(FV.ptr ob 0::rest)[i]?=some x->aO G w c x)(vo:lI S.cz ob=some bs)(h:Ym E.C S o.dst g ob bs rest K){next:Act->World->Prop}{Q:Exit->Act->World->Prop}(hn:∀S' a' w',K S'->mY E S' a' w'->next a' w'):AY E o a w next Q:=by
 unfold Ym at h;split at h;grind;rename_i xs hxs;obtain⟨out,r,⟨⟨fn,h1,h2,h3⟩,hc⟩,hk⟩:=h;generalize hvs:(first++args.map a.eval++captured)=vs at hr;obtain⟨vs⟩:=vs;match vs,hr with
  |[],hr=>simp at hr
  |v0::vs,hr=>
   obtain⟨b,rfl,hl⟩:=(hr.2 0 v0 _ rfl rfl).og;obtain⟨-,b0,hl0,rL⟩:=hs.iY.at_ ob bs vo;rw[hl]at hl0;obtain rfl:=ak hl0;have qe:=ni (G:=G) (w:=w) (cs:=vs) (xs:=rest) ⟨by grind,λi c x q1 q2=>hr.2 (i+1) c x (by simpa using q1) (by simpa using q2)⟩ hxs;obtain⟨-,l2,l3⟩:=hs.gD ob b hl;have hng:E.C.mD<=b:=by rcases l2 with l2|l2;have :=E.hn;omega;exact(E.hown b (E.Fi _ l2.2).1).1
   have :=hc G.bh w b (G.row ob) vs hs.J.1 hs.J.2 hs.fo hng (λr hr=>by rcases(hs.iY.row ob r hr).1 with h|h;have :=E.hn;omega;exact(E.hown r (E.hrows _ h.2)).1) (λi=>(l3 i).1) (λr i hr=>(hs.iY.row ob r hr).2.2.1 i) rL qe.1 qe.2;refine⟨λf _=>Env.gd f,?_⟩;have RU:first++args.map a.eval++captured=(.pointer (some ⟨b,0,none⟩)::vs).toArray:=by rw[hvs]
   rw[Oper.semAt_eq _ _ _ (λc=>by rw[ho];simp),tn ho hf h1 h2 h3,Oper.uponIn_enter,RU];refine⟨λh=>(by rw[Env.kj]at h;cases h),mu (Calls.mono this ?_)⟩;rintro e w' ⟨v,rfl,hv,hout,f1,f2,f3,f4,f5⟩;have VZ:∀{G':aZ},aO G' w' v (.p r):=λ{G'}=>.p _ _ (hv.keep (λ_ _ h=>h.elim) (λ_ _ _ h=>h.elim) (λ_ _ _ h=>h.elim));cases out with
   |some bs'=>
    obtain⟨row',acs,hrow⟩:=hout;have hlt:∀x,row'=some x->x<w'.heap.size:=λx hx=>by obtain⟨p,u,-,-,h6⟩:=acs;rw[hx]at h6;obtain⟨-,cap,cur,-,h7,-⟩:=h6;exact(bq.1 h7).1
    obtain⟨hg,-⟩:=hs.Uu (Uv:=Yl S.cz ob bs') (row':=row') vo hl (by obtain⟨p,u,-,h6,-⟩:=acs;exact⟨_,_,h6⟩) (hrow.imp id λh=>h.imp id λ⟨x,q1,q2⟩=>⟨x,q1,q2,hlt x q1⟩) (λx hx=>by obtain⟨p,u,-,-,h6⟩:=acs;rw[hx]at h6;obtain⟨-,cap,cur,-,h7,-⟩:=h6;exact⟨_,_,_,h7⟩) f1 f2 f3 f4 f5 (λq bs2 hq=>(YN hq).imp (λ⟨q1,q2⟩=>⟨q1,q2▸acs⟩) id);exact hn _ _ _ hk ⟨_,hg.put o.dst VZ⟩
   |none=>obtain⟨hg,-⟩:=hs.Uu (Uv:=BM ob S.cz) (row':=none) vo hl hout (.inr (.inl rfl)) (λx hx=>by cases hx) f1 f2 f3 f4 f5 (λq bs2 hq=>.inr (kn hq));exact hn _ _ _ hk ⟨_,hg.put o.dst VZ⟩
theorem bp.HK (hs:bp E G S a w){ob b:Nat}{cells:List FV}(vo:Qv.getObj S.aD ob=some cells)(fJ:G.loc ob=some b)(hne:cells≠[]):∃cs T fr,w.heap[b]?=some (.cells cs T fr):=by obtain⟨b',h1,h2⟩:=hs.aD ob cells vo;rw[fJ]at h1;obtain rfl:=ak h1;match cells,hne with|x::xs,_=>obtain⟨c,h3,-⟩:=h2 0 x rfl;unfold World.cell? at h3;grind
theorem iZ (d:Nat):∀l:List AV,FV.dJ d (aI l)=aI l|[]=>rfl|x::l=>by simp[aI,FV.dJ,FV.kill,iZ d l]
theorem HL (d:Nat)(c:List FV):∀l:List (Nat×List FV),dW d (setObj l d c)=dW d l|[]=>rfl|(u,i)::l=>by simp only[setObj];split;rename_i h;simp only[dW,h];rename_i h;simp only[dW,h];rw[HL d c l]
theorem Gh {ob:Nat}{cells cs:List FV}:∀{l:List (Nat×List FV)},Qv.getObj l ob=some cells->Qv.getObj (setObj l ob cs) ob=some cs:=by
 intro l;induction l with
 |nil=>intro h;cases h
 |cons p l ih=>obtain⟨u,i⟩:=p;intro h;simp only[Qv.getObj]at h;simp only[setObj];split at h;rename_i hb;simp only[hb,Qv.getObj];rename_i hb;simp only[hb,Qv.getObj];exact ih h
theorem bp.ahs (hs:bp E G S a w){ob b:Nat}{cells:List FV}{zs:List AV}{w':World}(vo:Qv.getObj S.aD ob=some cells)(fJ:G.loc ob=some b)(hbc:∃cs T fr,w.heap[b]?=some (.cells cs T fr))(hlen:zs.length=cells.length)(hc:∀(i:Nat)(x:AV),zs[i]?=some x->∃c,w'.cell? ⟨b,i,none⟩=some c/\dh (lq G.bh w.heap.size) w' c x)(hos:w'.os=w.os)(OS:w'.tape=w.tape)(hout:w'.output=w.output)(hsz:w.heap.size<=w'.heap.size)(hblk:∀k,k<w.heap.size->k≠b->w'.heap[k]?=w.heap[k]?)(hsh:∀cs T fr,w.heap[b]?=some (.cells cs T fr)->∃cs',w'.heap[b]?=some (.cells cs' T fr)/\cs'.size=cs.size):bp E {G with bh:=λb o=>G.bh b o\/(w.heap.size<=b/\b<w'.heap.size)} (S.BO ob (aI zs)) a w':=by
 obtain⟨l1,l2,l3⟩:=hs.gD ob b fJ;obtain⟨cs,T,fr,hb⟩:=hbc;obtain⟨cs',hb',afn⟩:=hsh cs T fr hb;have BX:∀k i,G.bh k i->k≠b:=by grind
 have hcell:∀k i,k<w.heap.size->k≠b->w'.cell? ⟨k,i,none⟩=w.cell? ⟨k,i,none⟩:=λk i h1 h2=>by unfold World.cell?;grind
 have aeq:∀k i,k<w.heap.size->w'.frozen? ⟨k,i,none⟩=w.frozen? ⟨k,i,none⟩:=λk i h1=>by by_cases h2:k=b;subst h2;simp[World.frozen?,hb,hb'];unfold World.frozen?;grind
 have others:fU w w':=λk o hk ho=>by rw[hblk k (bq.1 hk).1 (λe=>by subst e;rw[hb]at hk;obtain rfl:=ak hk;simp[Obj.isCells]at ho)];exact hk
 have keep:∀v x,aO G w v x->aO {G with bh:=λb o=>G.bh b o\/(w.heap.size<=b/\b<w'.heap.size)} w' v x:=λv x hv=>hv.keep (λb o hi=>.inl hi) (λk o c hi hc=>by rw[hcell k o (hs.fo k o hi) (BX k o hi)];exact hc) (others.oV _) (λ_ _ e=>e) (λ_ _ e=>e);have KM:∀o r,G.row o=some r->r≠b:=λo r h e=>(hs.iY.row o r h).2.2.2.1 ob (e▸fJ);refine⟨⟨hos.trans hs.kept.os,OS.trans hs.kept.tape,hout.trans hs.kept.output,bL hs.kept.size hsz,λk hk hk'=>?_,λk c1 T1 f1 hk q=>?_⟩,hs.size,hs.ext'.keep rfl rfl rfl keep others (Hv:=.more rfl rfl rfl rfl (λb i hi=>hi.imp id λhi=>hi.1) (λb hi=>.inl hi) λ_ _ h=>.inl h),?_,?_,?_,λi hi=>keep _ _ (hs.tmps i hi),λo cs2 ho=>?_,λo b2 ho=>?_,hs.eU,λo t b2 r q1 q2=>?_,λt b2 s e T2 h=>?_,hs.dR⟩;rw[hblk k (en hk hs.kept.size) (E.Mv l2 hk hk')];exact hs.kept.block k hk hk';obtain⟨c2,q1,q2⟩:=hs.kept.shape k c1 T1 f1 hk q;grind;refine hs.iY.keep rfl rfl (λo bs q=>⟨q,rfl,rfl⟩) (λo bs _ q=>?_) (λ_ _ e=>e) hsz (λo bs b2 q q2 e=>hblk b2 (hs.gD o b2 e).1 (λe2=>?_)) (λo r e=>hblk r (hs.iY.row o r e).2.1 (KM o r e)) (λo r i e hi=>hi.elim id λhi=>absurd (hs.iY.row o r e).2.1 oO) (λ_ _ _ _ e=>e) (λ_ _ t q _ e=>⟨t,q,e⟩);cases h':Qv.getObj (S.BO ob (aI zs)).aD o with
 |none=>rfl
 |some cs=>rcases qu h' with⟨rfl,-⟩|⟨-,h2⟩;grind;grind
 have :=hs.eU o ob b2 e (e2▸fJ);grind;rintro k o (hi|⟨hi,_⟩);exact hs.mX k o hi;exact .inr (bL hs.kept.size hi);rintro k o (hi|⟨_,hi⟩);exact en (hs.fo k o hi) hsz;omega;rcases qu ho with⟨rfl,rfl⟩|⟨hne,ho⟩;refine⟨b,fJ,λi y hy=>?_⟩;rw[er,aJ]at hy;cases hq:zs[i]?with
 |none=>grind
 |some z=>simp only[hq,ek,bF]at hy;subst hy;obtain⟨c,h1,h2⟩:=hc i z hq;refine⟨c,h1,.p _ _ (h2.uD (λb o c hi hc=>⟨hi.imp id λh=>⟨h,World.block_lt_of_cell? w' _ hc⟩,hc⟩) λb es k hi hb=>⟨hi.imp id λh=>⟨h,(bq.1 hb).1⟩,hb⟩)⟩
 obtain⟨b2,h2,h3⟩:=hs.aD o cs2 ho;have AZ:b2≠b:=λe=>hne (hs.eU o ob b2 h2 (e▸fJ));exact⟨b2,h2,λi y hy=>let⟨c,h4,h5⟩:=h3 i y hy;⟨c,by rw[hcell b2 i (hs.gD o b2 h2).1 AZ];exact h4,keep _ _ h5⟩⟩;obtain⟨k1,k2,k3⟩:=hs.gD o b2 ho;grind;refine lB.mono (hs.ck o t b2 r q1 q2) (λbs q=>⟨bs,q⟩) λcs q=>?_;rcases qu q with⟨rfl,rfl⟩|⟨-,q⟩;exact⟨cells,vo,by rw[er,aj];exact hlen⟩;grind;obtain⟨k1,k2,⟨c1,f1,kt,ku⟩,k3⟩:=hs.fS t b2 s e T2 h;by_cases AZ:b2=b;subst AZ;rw[hb]at kt;injection ak kt with e1 e2 e3;subst e1;subst e2;subst e3;refine⟨en k1 hsz,k2,⟨_,_,hb',ku⟩,λi hi hi'=>?_⟩;obtain⟨⟨c,k4⟩,k5,k6⟩:=k3 i hi hi';refine⟨?_,by grind,?_⟩;have hlt:i<cs.size:=by simp only[World.cell?,hb]at k4;exact(bq.1 (by simpa using k4)).1
 exact⟨cs'[i]'oO,by simp[World.cell?,hb',afn▸hlt]⟩;grind;refine⟨en k1 hsz,k2,⟨c1,f1,by grind,ku⟩,λi hi hi'=>?_⟩;grind
theorem wp_obj (hs:bp E G S a w){f:Operand}{args:Array Operand}{types:Array TypeId}{g:FuncId}{first captured:Array Value}{xs:List FV}{K:ag->Prop}(ho:o.op=.call ⟨.value f,args,types⟩)(hf0:a.eval f=.func (.func g) first captured)(hr:(first++args.map a.eval++captured).toList.length=xs.length/\∀(i:Nat)(c:Value)(x:FV),(first++args.map a.eval++captured).toList[i]?=some c->xs[i]?=some x->aO G w c x)(h:Oj E.C S o.dst g xs K){next:Act->World->Prop}{Q:Exit->Act->World->Prop}(hn:∀S' a' w',K S'->mY E S' a' w'->next a' w'):AY E o a w next Q:=by
 unfold Oj at h;split at h;rename_i ob rest;split at h;rename_i cells as1 vo has;split at h;rename_i z zs hcells;obtain⟨R,⟨⟨fn,h1,h2,h3⟩,hc⟩,hk⟩:=h;obtain⟨b,fJ,hcs⟩:=hs.aD ob cells vo;obtain⟨l1,l2,l3⟩:=hs.gD ob b fJ;obtain⟨g1,g2⟩:=FV.iV hcells;generalize hvs:(first++args.map a.eval++captured)=vs0 at hr;obtain⟨vs⟩:=vs0;match vs,hr with
  |[],hr=>simp at hr
  |v::vs,hr=>
   have hv:=hr.2 0 v _ rfl rfl;obtain⟨b',rfl,hb'⟩:=hv.og;rw[fJ]at hb';obtain rfl:=ak hb';have RU:=ni (cs:=vs) (xs:=rest) (ys:=as1) ⟨by simpa using hr.1,λi c x q1 q2=>hr.2 (i+1) c x (by simpa using q1) (by simpa using q2)⟩ has;have hJ:=hs.J;have hng:E.C.mD<=b:=by rcases l2 with l2|l2;have :=E.hn;omega;exact(E.hown b (E.Fi _ l2.2).1).1
   have :=hc G.bh w b vs hJ.1 hJ.2 hs.fo hng l1 l3 (λi x hx=>by obtain⟨y,hy,hxy⟩:=g2 i x hx;obtain⟨c,q1,q2⟩:=hcs i y hy;exact⟨c,q1,q2.eW hxy⟩) RU.1 RU.2;refine⟨λf _=>Env.gd f,?_⟩;rw[Oper.semAt_eq _ _ _ (λc=>by rw[ho];simp),tn ho hf0 h1 h2 h3,Oper.uponIn_enter,hvs];refine⟨λh=>(by rw[Env.kj]at h;cases h),mu (Calls.mono this ?_)⟩;rintro e w' ⟨u,r,cells',rfl,hR,hl,nO,hc',q1,q2,q3,q4,q5,q6⟩;have hne:cells≠[]:=λe=>by subst e;simp at g1
   have hs':=hs.ahs vo fJ (hs.HK vo fJ hne) (zs:=cells') (hl.trans g1) hc' q1 q2 q3 q4 q5 q6;refine hn _ _ _ (hk r cells' hR) ⟨_,hs'.put o.dst (.p _ _ (nO.uD (λb o c hi hc=>⟨hi.imp id λh=>⟨h,World.block_lt_of_cell? w' _ hc⟩,hc⟩) λb es k hi hb=>⟨hi.imp id λh=>⟨h,(bq.1 hb).1⟩,hb⟩))⟩
 grind;grind;rename_i ob T bI rest;split at h;rename_i cells as1 akc has;split at h;rename_i zs hcells;obtain⟨hon,vo⟩:=iW akc;obtain⟨R,⟨⟨fn,h1,h2,h3⟩,hc⟩,hk⟩:=h;obtain⟨b,fJ,hcs⟩:=hs.aD ob cells vo;obtain⟨l1,l2,l3⟩:=hs.gD ob b fJ;obtain⟨g1,g2⟩:=FV.iV hcells;generalize hvs:(first++args.map a.eval++captured)=vs0 at hr;obtain⟨vs⟩:=vs0;match vs,hr with
  |[],hr=>simp at hr
  |v::vs,hr=>
   have hv:=hr.2 0 v _ rfl rfl;obtain⟨n,c,b',rfl,p1,p2,p3,p4⟩:=hv.Gy;rw[fJ]at p1;obtain rfl:=ak p1;have RU:=ni (cs:=vs) (xs:=rest) (ys:=as1) ⟨by simpa using hr.1,λi c x q1 q2=>hr.2 (i+1) c x (by simpa using q1) (by simpa using q2)⟩ has;have hJ:=hs.J;have hng:E.C.mD<=b:=by rcases l2 with l2|l2;have :=E.hn;omega;simp_all
   have hlen:=(hs.ck ob ob b _ fJ p2).2.2 cells vo;obtain⟨-,-,⟨cs,fr,tt,-⟩,-⟩:=hs.fS _ _ _ _ _ p2;have :=hc G.bh w b n c vs hJ.1 hJ.2 hs.fo hng l1 l3 ⟨cs,fr,tt⟩ (g1.trans hlen) p3 p4 (λi x hx=>by obtain⟨y,hy,hxy⟩:=g2 i x hx;obtain⟨c,q1,q2⟩:=hcs i y hy;exact⟨c,q1,q2.eW hxy⟩) RU.1 RU.2;refine⟨λf _=>Env.gd f,?_⟩;rw[Oper.semAt_eq _ _ _ (λc=>by rw[ho];simp),tn ho hf0 h1 h2 h3,Oper.uponIn_enter,hvs];refine⟨λh=>(by rw[Env.kj]at h;cases h),mu (Calls.mono this ?_)⟩;rintro e w' ⟨u,r,ys,full,rfl,hR,hl,hres,hc',q1,q2,q3,q4,q5,q6⟩;have hs':=hs.ahs vo fJ ⟨cs,T,fr,tt⟩ (zs:=full) (hl.trans g1) hc' q1 q2 q3 q4 q5 q6;have hk:=hk r ys hR;unfold Yp at hk;cases r with
   |false=>obtain⟨rfl,rfl⟩:=hres;exact hn _ _ _ hk ⟨_,hs'.put o.dst (v:=.tuple #[]) (x:=.p (.eS [])) (jD _ _)⟩
   |true=>
    obtain⟨m,rfl,hm,rfl⟩:=hres;simp only at hk;split at hk;rename_i d hd;obtain⟨zs',rfl,hk⟩:=hk;have acn:=hs'.Ux (k:=ob) (xs:=aI full) (Gh vo) fJ p2 (n:=m*bI) (ew _ hm) (ew _ p3);have e1:FV.dJ ob ((aI full).take (m*bI))=aI (full.take (m*bI)):=by rw[show(aI full).take (m*bI)=aI (full.take (m*bI))from by rw[er,er,rZ],iZ]
    have e2:dW ob (S.BO ob (aI full)).aD=dW ob S.aD:=HL ob _ S.aD;rw[e1,e2]at acn;rw[hd];exact hn _ _ _ hk ⟨_,acn.put (some d) (v:=.slice (some ⟨b,0,none⟩) m c) (x:=.fT ob T bI) (.fT ob T bI m c b fJ (by simp only[if_true]) oO p4)⟩;exact hk.elim
 grind;grind;rcases h with h|h;obtain⟨d,ks,vs,hf,h⟩:=h;split at h;rename_i ys hys;obtain⟨R,hc,hk⟩:=h;obtain⟨G',hs',up⟩:=hs.RS hf;refine wp_call hs' ho hf0 (ni (xs:=FV.Yb d (.mp ks vs) xs) ⟨by rw[FV.vw,aj];exact hr.1,λi c x q1 q2=>?_⟩ hys) hc λr v w' hR hb hok=>?_;rw[FV.vw,aJ]at q2;cases hq:xs[i]?with
 |none=>grind
 |some y=>grind
 obtain⟨Yf,hk'⟩:=Gu (hk r hR);exact hn _ _ _ hk' (sS hs' hb hok Yf);grind;obtain⟨d,ys,h⟩:=h;split at h;grind;rename_i cells hcell;obtain⟨hy,h1,h⟩:=h;split at h;rename_i zs hzs;obtain⟨R,hc,hk⟩:=h;obtain⟨G',hs',up⟩:=hs.aey (iW hcell).1 (iW hcell).2 hy h1;refine wp_call hs' ho hf0 (ni (xs:=FV.Rx d ys xs) ⟨by rw[FV.uq,aj];exact hr.1,λi c x q1 q2=>?_⟩ hzs) hc λr v w' hR hb hok=>?_;rw[FV.uq,aJ]at q2;cases hq:xs[i]?with
 |none=>grind
 |some y=>grind
 obtain⟨Yf,hk'⟩:=Gu (hk r hR);exact hn _ _ _ hk' (sS hs' hb hok Yf);grind
theorem wp_lentC (hs:bp E G S a w){f:Operand}{args:Array Operand}{types:Array TypeId}{g:FuncId}{first captured:Array Value}{xs:List FV}{K:ag->Prop}(ho:o.op=.call ⟨.value f,args,types⟩)(hf:a.eval f=.func (.func g) first captured)(hr:(first++args.map a.eval++captured).toList.length=xs.length/\∀(i:Nat)(c:Value)(x:FV),(first++args.map a.eval++captured).toList[i]?=some c->xs[i]?=some x->aO G w c x)(h:Mo E.C S o.dst g xs K){next:Act->World->Prop}{Q:Exit->Act->World->Prop}(hn:∀S' a' w',K S'->mY E S' a' w'->next a' w'):AY E o a w next Q:=by
 obtain⟨ρ,aD,m,l,az,R,rfl,⟨c1,c2,c3,c4,c5⟩,hsub,hm,Uy,⟨⟨fn,h1,h2,h3⟩,hc⟩,hk⟩:=h;obtain⟨loc,YY⟩:∃loc:Nat->Option Nat,∀o,loc o=if gv o (ji aD)=true then G.loc (Ff ρ o)else none:=⟨_,λ_=>rfl⟩;obtain⟨mp,afp⟩:∃mp:Nat->Option Nat,∀o,mp o=if o=m then G.mp (Ff ρ o)else none:=⟨_,λ_=>rfl⟩;have fJ:∀o b,loc o=some b->gv o (ji aD)=true/\G.loc (Ff ρ o)=some b:=λo b h=>by rw[YY]at h;split at h;rename_i h';exact⟨h',h⟩;cases h
 have hmp:∀o b,mp o=some b->o=m/\G.mp (Ff ρ o)=some b:=λo b h=>by rw[afp]at h;split at h;rename_i h';exact⟨h',h⟩;cases h
 have hJ:=hs.J;have hng:∀o b,E.mine o b->E.C.mD<=b:=λo b h=>by rcases E.BU h with h|h;have :=E.hn;omega;exact(E.hown b h).1
 have back:∀v x,x.only (ji aD) m=true->aO G w v (x.nm ρ)->aO (tP G.bh loc mp) w v x:=λv x hx hv=>hv.back (λ_ _ h=>h) (λo b q1 q2=>by rw[YY,af q1];exact q2) (λb q=>by rw[afp,af rfl];exact q) x hx rfl;obtain⟨B,gm,es,b1,b2,b3,b4,b5⟩:=hs.ext'.mps.at_ _ _ hm;obtain⟨d1,d2,-⟩:=hs.ext'.mps.loc _ _ b1;have afl:B<w.heap.size:=(bq.1 b2).1;have OT:∀o b,loc o=some b->∃cells,Qv.getObj aD o=some cells/\Qv.getObj S.aD (Ff ρ o)=some (FV.JE ρ cells)/\iy o=true/\FV.xJ (ji aD) m cells=true/\FV.JE ρ cells≠[]:=λo b h=>by obtain⟨cells,q⟩:=zD.1 (nV.1 (fJ o b h).1);obtain⟨g1,g2,g3⟩:=rX c2 q;exact⟨cells,q,ye hsub q,g1,g2,λe=>g3 (by have :=aV List.length e;rw[pz]at this;exact cO.1 this)⟩
 have rL:Yr E.C.mD G.bh loc mp w aD m l:=by refine⟨λo b q=>?_,λo cells q=>?_,λo o' b q q'=>?_,λo b q=>?_,⟨B,gm,es,by rw[afp,af rfl];exact b1,b2,b3,by rw[b4,vz,aj],λi e p he hp=>?_⟩,λo o' b q q'=>?_⟩;obtain⟨q1,q2⟩:=fJ o b q;obtain⟨cells,k1,k2,k3,k4,k5⟩:=OT o b q;obtain⟨l1,l2,l3⟩:=hs.gD _ _ q2;exact⟨k3,q1,hs.HK k2 q2 k5,hng _ _ l2,l1,l3⟩;obtain⟨g1,g2,g3⟩:=rX c2 q;obtain⟨b,h4,h5⟩:=hs.aD _ _ (ye hsub q);refine⟨b,by rw[YY,af (nV.2 (zD.2 ⟨_,q⟩))];exact h4,λi x hx=>?_⟩;obtain⟨c,h6,h7⟩:=h5 i (x.nm ρ) (by rw[oo,hx];rfl);exact⟨c,h6,back _ _ (oH g2 hx) h7⟩;exact KN c5 (nV.1 (fJ o b q).1) (nV.1 (fJ o' b q').1) (hs.eU _ _ b (fJ o b q).2 (fJ o' b q').2);obtain⟨rfl,q2⟩:=hmp o b q;rw[b1]at q2;obtain rfl:=ak q2;exact⟨rfl,c3,hng _ _ d1,afl,d2⟩;have :=b5 i e (p.1,p.2.nm ρ) he (by rw[vz,aJ,hp];rfl);exact⟨this.1,back _ _ (Ek c4 hp) this.2⟩;exact hs.ext'.mps.apart _ _ b (hmp o b q).2 (fJ o' b q').2
 have :=hc G.bh loc mp w (first++args.map a.eval++captured).toList hJ.1 hJ.2 hs.fo rL (by rw[hr.1,pz]) λi v x q1 q2=>back v x (oH c1 q2) (hr.2 i v _ q1 (by rw[oo,q2];rfl));refine⟨λf _=>Env.gd f,?_⟩;rw[Oper.semAt_eq _ _ _ (λc=>by rw[ho];simp),tn ho hf h1 h2 h3,Oper.uponIn_enter];refine⟨λh=>(by rw[Env.kj]at h;cases h),mu (Calls.mono this ?_)⟩;rintro e w' ⟨v,r,l',rfl,hR,nO,hO,⟨B',AU,es',e1,e2,e3,e4,e5⟩,p1,p2,p3,p4,p5⟩;have eB:=(hmp m B' e1).2;rw[b1]at eB;obtain rfl:=ak eB;obtain⟨w1,hw1⟩:∃w1,w'.putObj B (.map es.toArray gm)=w1:=⟨_,rfl⟩;have aht:w1.heap[B]?=some (.map es.toArray gm):=by rw[<-hw1];exact World.putObj_heap_same (en afl p4)
 have afq:∀k,k≠B->w1.heap[k]?=w'.heap[k]?:=λk hk=>by rw[<-hw1];exact World.putObj_heap_other hk
 have YZ:w1.heap.size=w'.heap.size:=by rw[<-hw1];exact World.putObj_size
 have Za:∀b i,w1.cell? ⟨b,i,none⟩=w'.cell? ⟨b,i,none⟩:=λb i=>by rw[<-hw1];exact Fl e2 rfl rfl b i
 have conv:∀{v:Value}{x:FV},aO (tP (lq G.bh w.heap.size) loc mp) w' v x->aO {G with bh:=λb o=>G.bh b o\/(w.heap.size<=b/\b<w1.heap.size)} w1 v (x.nm ρ):=λ{v x} hv=>by
  have h1:aO (tP (λb o=>G.bh b o\/(w.heap.size<=b/\b<w1.heap.size)) loc mp) w1 v x:=by refine hv.uD (λb o c hi hc=>⟨?_,by rw[Za];exact hc⟩) (λb es k hi hb=>⟨?_,?_⟩) (λ_ _ h=>h) (λ_ _ h=>h);have :=World.block_lt_of_cell? w' _ hc;exact hi.imp id λh=>⟨h,by rw[YZ];exact this⟩;have :=(bq.1 hb).1;exact hi.imp id λh=>⟨h,by rw[YZ];exact this⟩;rw[afq b (λe=>by subst e;exact hi.elim (d2 0) (λh=>by have :w.heap.size<=b:=h;omega))];exact hb
  exact h1.fwd rfl (λo b q=>(fJ o b q).2) λo b q=>(hmp o b q).2
 have ahu:∀{v:Value}{x:AV},dh (lq G.bh w.heap.size) w' v x->dh (λb o=>G.bh b o\/(w.heap.size<=b/\b<w1.heap.size)) w1 v x:=λ{v x} hv=>by
  have :=conv (.p v x hv);cases this with
  |p _ _ h=>exact h
 have hblk:∀k,k<w.heap.size->(¬∃o,loc o=some k)->w1.heap[k]?=w.heap[k]?:=λk hk hd=>by by_cases hkB:k=B;subst hkB;rw[aht,b2];rw[afq k hkB];exact p5 k hk (λo e=>hd ⟨o,e⟩) λo e=>hkB (by obtain⟨rfl,q⟩:=hmp o k e;rw[b1]at q;exact(ak q).symm)
 have hA:=hs.ahr (w':=w1) (λk=>∃o,loc o=some k) (λk ⟨o,hk⟩=>by
  obtain⟨cells,k1,k2,k3,k4,k5⟩:=OT o k hk;obtain⟨q1,q2⟩:=hO o k hk;have hkB:k≠B:=λe=>hs.ext'.mps.apart _ _ _ b1 (e▸(fJ o k hk).2);refine⟨Ff ρ o,FV.JE ρ cells,(fJ o k hk).2,k2,hs.HK k2 (fJ o k hk).2 k5,λcs T fr hcs=>?_,λi x hx=>?_⟩;rw[afq k hkB];exact q2 cs T fr hcs;rw[oo]at hx;cases hy:cells[i]?with
  |none=>simp[hy]at hx
  |some y=>simp[hy]at hx;subst hx;obtain⟨c,k6,k7⟩:=q1 cells i y k1 hy;exact⟨c,by rw[Za];exact k6,conv k7⟩) ((by rw[<-hw1];rfl:w1.os=w'.os).trans p1) ((by rw[<-hw1];rfl:w1.tape=w'.tape).trans p2) ((by rw[<-hw1];rfl:w1.output=w'.output).trans p3) (by rw[YZ];exact p4) hblk
 have hB2:=hA.MK (ob:=Ff ρ m) (b:=B) (es:=es) (gm:=gm) (es':=es') (AU:=AU) (l':=uF (FV.nm ρ) l') b1 aht e3 (by rw[e4,vz,aj]) (λi e p he hp=>by
  rw[vz,aJ]at hp;cases hq:l'[i]?with
  |none=>simp[hq]at hp
  |some q=>simp[hq]at hp;subst hp;exact⟨ahu (e5 i e q he hq).1,conv (e5 i e q he hq).2⟩) (λT z k q=>by rw[Uy]at q;cases q)
 have hw2:w1.putObj B (.map es'.toArray AU)=w':=by rw[<-hw1,RT];exact Fm e2
 rw[hw2]at hB2;refine hn _ _ _ (hk r l' hR) ⟨_,hB2.put o.dst (.p _ _ (nO.uD (λb o c hi hc=>⟨hi.imp id λh=>⟨h,by rw[YZ];exact World.block_lt_of_cell? w' _ hc⟩,hc⟩) λb es k hi hb=>⟨hi.imp id λh=>⟨h,by rw[YZ];exact(bq.1 hb).1⟩,hb⟩))⟩
theorem dh.Hi {bh tL:Nat->Nat->Prop}{w:World}{v:Value}{x:AV}(h:dh bh w v x)(hx:x.Hi=true):dh tL w v x:=by
 cases h with
 |eS cs xs hl hr=>exact .eS cs xs hl λi c x h1 h2=>(hr i c x h1 h2).flat (VK hx x (bP h2))
 |bool b=>exact .bool b
 |int k n=>exact .int k n
 |str s=>exact .str s
 |xF=>exact .xF
 |DW=>exact .DW
 |sX=>exact .sX
 |vq=>exact .vq
 |_=>simp[AV.Hi,AV.flat]at hx
def yh (w:World):Nat->Nat->Prop:=λb _=>b<w.heap.size
theorem dh.all (hs:bp E G S a w){v:Value}{x:AV}(h:dh G.bh w v x):dh (yh w) w v x:=h.keep (λb o h=>hs.fo b o h) (λ_ _ _ _ h=>h) (.refl _ _)
mutual theorem Zb (hs:bp E G S a w):∀{v:Value}{x:FV}{y:AV},aO G w v x->Fe S x y->dh (yh w) w v y
 |v,x,y,hx,.plain h=>dh.all hs (hx.eW h)
 |v,.fT ob T bI,.sl xss,hx,.fT (cells:=cells) h1 h2 h3=>by
  obtain⟨n,c,b,rfl,p1,p2,p3,p4⟩:=hx.Gy;obtain⟨-,vo⟩:=iW h1;have hlen:=(hs.ck ob ob b _ p1 p2).2.2 cells vo;obtain⟨b',Ar,hcs⟩:=hs.aD ob cells vo;rw[p1]at Ar;obtain rfl:=ak Ar;have g:=oI hs h2;have hfl:xss.flatten.length=xss.length*bI:=gG λzs hz=>(h3 zs hz).1;have hn:n=xss.length:=by
   have :xss.length*bI=n*bI:=by rw[<-hfl,g.1];exact hlen
   exact(gx p4 this).symm
  subst hn;have hb:=(hs.gD ob b p1).1;have get:∀(i:Nat)(ys:List AV)(j:Nat)(y:AV),xss[i]?=some ys->ys[j]?=some y->∃u,w.cell? ⟨b,i*bI+j,none⟩=some u/\dh (yh w) w u y:=λi ys j y q1 q2=>by
   have q:=mO (λzs hz=>(h3 zs hz).1) q1 q2;have hlt:i*bI+j<cells.length:=by rw[<-g.1];exact(aG.1 q).1
   obtain⟨c,k1,k2⟩:=hcs _ _ (an hlt);grind
  refine .sl b 0 c bI xss (λi j=>(w.cell? ⟨b,i*bI+j,none⟩).getD undef) (λi ys q=>(h3 ys (bP q)).1) (λi ys j y q1 q2=>(h3 ys (bP q1)).2 y (bP q2)) (λi ys j y q1 q2=>?_) (λi ys j y q1 q2=>hb) (λi ys j y q1 q2=>?_) p3;grind;grind
 |v,.ptr ob 0,.imp ys,hx,.ptr (cells:=cells) h1 h2 h3=>by
  obtain⟨b,rfl,p1⟩:=hx.og;obtain⟨-,vo⟩:=iW h1;have hb:=(hs.gD ob b p1).1;obtain⟨b',Ar,hcs⟩:=hs.aD ob cells vo;rw[p1]at Ar;obtain rfl:=ak Ar;have g:=oI hs h2;have get:∀(j:Nat)(y:AV),ys[j]?=some y->∃u,w.cell? ⟨b,j,none⟩=some u/\dh (yh w) w u y:=λj y q=>by
   have hlt:j<cells.length:=by rw[<-g.1];exact(aG.1 q).1
   obtain⟨c,k1,k2⟩:=hcs _ _ (an hlt);grind
  refine .imp b 0 ys (λj=>(w.cell? ⟨b,j,none⟩).getD undef) (λj y q=>h3 y (bP q)) (λj y q=>?_) (λj y q=>hb) (λj y q=>?_);grind;grind
 |v,.fu ob,.mp ks vs,hx,.fu (l:=l) h1 h2 h3=>by
  cases hx with
  |fu _ b0 hm=>
   obtain⟨b,gm,es,p1,p2,p3,p4,p5⟩:=hs.ext'.mps.at_ ob l h1;rw[hm]at p1;obtain rfl:=ak p1;have hb:b0<w.heap.size:=by grind
   have g:=oI hs h3;have hkl:ks.length=l.length:=by rw[<-h2,nh,aj]
   refine .mp b0 gm es ks vs oO (by rw[g.1,zA,aj];omega) hb p2 p3 (λi e x q1 q2=>?_) (λi e x q1 q2=>?_);have BL:i<l.length:=by have :=(aG.1 q1).1;omega
   have :=(p5 i e _ q1 (an BL)).1;rw[<-h2,nh,aJ,an BL]at q2;obtain rfl:=ak q2;exact dh.all hs this;have BL:i<l.length:=by have :=(aG.1 q1).1;omega
   have :=(p5 i e _ q1 (an BL)).2;exact g.2 i _ _ _ (by rw[zA,aJ,an BL];rfl) q2 this
 |v,.fn ff fs cs,.fn _ a b,hx,.fn h1 h2=>by
  cases hx with
  |fn _ vs us _ _ q1 q2 q3 q4=>
   have g1:=oI hs h1;have g2:=oI hs h2;refine .fn _ vs us a b (q1.trans g1.1.symm) (q2.trans g2.1.symm) (λi c x k1 k2=>?_) (λi c x k1 k2=>?_);have hlt:i<fs.length:=by rw[<-g1.1];exact(aG.1 k2).1
   exact g1.2 i _ _ _ (an hlt) k2 (q3 i c _ k1 (an hlt));have hlt:i<cs.length:=by rw[<-g2.1];exact(aG.1 k2).1
   exact g2.2 i _ _ _ (an hlt) k2 (q4 i c _ k1 (an hlt))
 |v,.agg xs,.agg ys,hx,.agg h1 h2=>by
  cases hx with
  |agg vs _ q1 q2=>
   have g1:=oI hs h1;refine .agg vs ys (q1.trans g1.1.symm) h2 (λi c x k1 k2=>?_);have hlt:i<xs.length:=by rw[<-g1.1];exact(aG.1 k2).1
   exact g1.2 i _ _ _ (an hlt) k2 (q2 i c _ k1 (an hlt)) theorem oI (hs:bp E G S a w):∀{xs:List FV}{ys:List AV},uG S xs ys->ys.length=xs.length/\∀(i:Nat)(x:FV)(y:AV)(v:Value),xs[i]?=some x->ys[i]?=some y->aO G w v x->dh (yh w) w v y
 |xs,ys,.plain h=>by obtain⟨g1,g2⟩:=FV.iV h;refine⟨g1,λi x y v q1 q2 q3=>?_⟩;obtain⟨x',k1,k2⟩:=g2 i y q2;rw[q1]at k1;obtain rfl:=ak k1;exact dh.all hs (q3.eW k2)
 |[],[],.nil=>⟨rfl,λi x y v q1=>by simp⟩
 |x::xs,y::ys,.cons h1 h2=>by
  have ih:=oI hs h2;refine⟨by grind,λi x' y' v q1 q2 q3=>?_⟩;cases i with
  |zero=>simp at q1 q2;subst q1;subst q2;exact Zb hs q3 h1
  |succ i=>grind end
theorem Wa (hs:bp E G S a w){vs:List Value}{xs:List FV}{ys:List AV}(hr:vs.length=xs.length/\∀(i:Nat)(c:Value)(x:FV),vs[i]?=some c->xs[i]?=some x->aO G w c x)(h:uG S xs ys):vs.length=ys.length/\∀(i:Nat)(c:Value)(y:AV),vs[i]?=some c->ys[i]?=some y->dh (yh w) w c y:=by
 have g:=oI hs h;refine⟨hr.1.trans g.1.symm,λi c y q1 q2=>?_⟩;have hlt:i<xs.length:=by rw[<-g.1];exact(aG.1 q2).1
 exact g.2 i _ _ _ (an hlt) q2 (hr.2 i c _ q1 (an hlt))
theorem wp_lend (hs:bp E G S a w){f:Operand}{args:Array Operand}{types:Array TypeId}{g:FuncId}{first captured:Array Value}{xs:List FV}{K:ag->Prop}(ho:o.op=.call ⟨.value f,args,types⟩)(hf:a.eval f=.func (.func g) first captured)(hr:(first++args.map a.eval++captured).toList.length=xs.length/\∀(i:Nat)(c:Value)(x:FV),(first++args.map a.eval++captured).toList[i]?=some c->xs[i]?=some x->aO G w c x)(h:Yq E.C S o.dst g xs K){next:Act->World->Prop}{Q:Exit->Act->World->Prop}(hn:∀S' a' w',K S'->mY E S' a' w'->next a' w'):AY E o a w next Q:=by obtain⟨ys,R,hl,⟨⟨fn,h1,h2,h3⟩,hc⟩,hk⟩:=h;obtain⟨r1,r2⟩:=Wa hs hr hl;have hJ:=hs.J;have :=hc (yh w) w (first++args.map a.eval++captured).toList ⟨hJ.1.1,λg xs hg=>dh.all hs (hJ.1.2 g xs hg)⟩ hJ.2 (λb o h=>h) r1 r2;refine⟨λf _=>Env.gd f,?_⟩;rw[Oper.semAt_eq _ _ _ (λc=>by grind),tn ho hf h1 h2 h3,Oper.uponIn_enter];refine⟨λh=>(by rw[Env.kj]at h;cases h),mu (Calls.mono this ?_)⟩;rintro e w' ⟨v,r,rfl,hR,hok,hb⟩;obtain⟨⟨x,rfl,hx⟩,hk'⟩:=hk r hR;obtain⟨Yf,hk'⟩:=Gu hk';have hok:nH G.bh w.heap.size w' v (.val x):=dh.Hi (bh:=lq (yh w) w.heap.size) hok hx;obtain⟨G',hg⟩:=sS hs (dst:=o.dst) hb hok Yf;exact hn _ _ _ hk' ⟨G',hg⟩
theorem wp_evClear (hs:bp E G S a w){K:ag->Prop}{x:Operand}{t:TypeId}(ho:o.op=.call ⟨.builtin .clear,#[x],#[t]⟩)(h:Mu E.C t o.dst S (S.val x) K){next:Act->World->Prop}{Q:Exit->Act->World->Prop}(hn:∀S' a' w',K S'->mY E S' a' w'->next a' w'):AY E o a w next Q:=by
 have GA:=aO.val hs x;generalize S.val x=vx at h GA;unfold Mu at h;split at h;rename_i k bx T bI;split at h;rename_i e _ ht;have JN:=(E.C.ok ht).slice;split at h;grind;rename_i j hj;split at h;rename_i xs hb hxs;obtain rfl:=aK hb;obtain⟨hkn,hxs⟩:=iW hxs;obtain⟨hone,N,hN,zs,rfl,hK⟩:=h;obtain⟨z,hz,Gz⟩:=(E.C.ok hj).zeroV w;have ahw:=(E.C.ok hj).len;generalize KL:a.eval x=vv at GA;cases GA with
 |sY _ _ _ _ n' c b off p1 p2 p0 p3 p4=>
  have hxl:=(hs.ck _ _ _ _ p1 p2).2.2 xs hxs;simp only at hxl;have hn':bx+N=n':=gx p4 (hN.symm.trans hxl);obtain rfl:N=n'-bx:=oO
  have hrl:=(pe (j.zero.map FV.gT) (n'-bx)).1;have AX:gE xs (bx*j.size) (nS (n'-bx) (j.zero.map FV.gT))=some (xs.take (bx*j.size)++nS (n'-bx) (j.zero.map FV.gT)):=by refine MH ?_;rw[hrl,aj,ahw,hN,bC]
  have hall:jQ (nS (n'-bx) (j.zero.map FV.gT))=true:=by
   generalize n'-bx=q;induction q with
   |zero=>rfl
   |succ q ih=>refine qp.2 λy hy=>?_;rw[nS,bf]at hy;exact hy.elim (λq=>qp.1 hone y q) (λq=>qp.1 ih y q)
  have nO:aO G w (.agg (nS (n'-bx) j.zero).toArray) (.agg (nS (n'-bx) (j.zero.map FV.gT))):=by rw[HG];exact .agg _ _ (qt (G:=G) (w:=w) _).1 (qt (G:=G) (w:=w) _).2
  obtain⟨hg,hrun⟩:=xY hs hxs p1 nO (by exact hall) (by exact AX);have hoff:off=bx*j.size\/n'-bx=0:=by by_cases hlt:bx<c;omega;omega
  have mG:∀ty,(Builtin.clear_ #[t] ty #[.slice (some ⟨b,off,none⟩) (n'-bx) (c-bx)]).run E.C.P w=.ok (.tuple #[]) (w.setCells b (bx*j.size) (nS (n'-bx) j.zero)):=λty=>by rcases hoff with rfl|h0;have :=RQ (P:=E.C.P) w t e ty z JN hz b (bx*j.size) (n'-bx) (c-bx) (by rw[Gz];exact hrun);grind;rw[h0];simp[Builtin.clear_,run_underlying JN];rfl
  have hr:(execOp a.eval o).run E.C.P w=.ok (.value (.tuple #[])) (w.setCells b (bx*j.size) (nS (n'-bx) j.zero)):=by simp[execOp,ho,resolve,invoke,builtin,KL,mG]
  refine wp_value hr (hn _ _ _ hK ⟨G,hg.put o.dst (v:=undef) (jD _ _)⟩)
 grind;grind;grind
theorem wp_inl (hs:bp E G S a w){call:iG}{Y:ov}(dm:mC E.C call)(hY:eA E Y){f:Operand}{args:Array Operand}{types:Array TypeId}{g:FuncId}{first captured:Array Value}{xs:List FV}{K:ag->Prop}(ho:o.op=.call ⟨.value f,args,types⟩)(hf:a.eval f=.func (.func g) first captured)(hr:(first++args.map a.eval++captured).toList.length=xs.length/\∀(i:Nat)(c:Value)(x:FV),(first++args.map a.eval++captured).toList[i]?=some c->xs[i]?=some x->aO G w c x)(h:KB E.C call Y S o.dst g xs K){next:Act->World->Prop}{Q:Exit->Act->World->Prop}(hn:∀S' a' w',K S'->mY E S' a' w'->next a' w'):AY E o a w next Q:=by
 unfold KB at h;split at h;rename_i ob bs rest hb;unfold Hh at hb;split at hb;split at hb;rename_i vo;have hb:=ak hb;injection hb with e1 e2;injection e2 with e2 e3;subst e1;subst e2;subst e3;exact wp_bld hs ho hf hr vo h hn;cases hb;cases hb;rename_i hnb;rcases h with h|((⟨hx,h⟩|h)|h)|h;obtain⟨⟨fn,h1,h2,h3⟩,hc⟩:=dm E rfl Y g xs _ G S a w _ hs (hY.push a) h hr.1 hr.2;refine⟨λf _=>Env.gd f,?_⟩;rw[Oper.semAt_eq _ _ _ (λc=>by rw[ho];simp),tn ho hf h1 h2 h3,Oper.uponIn_enter];refine⟨λh=>(by rw[Env.kj]at h;cases h),Pj (CallsIn.mono hc ?_)⟩;rintro e w' ⟨v,x,G',S',rfl,hK,hs',hv⟩;unfold ag7 at hK;split at hK;obtain⟨T,hT,hK⟩:=hK;exact hn _ _ _ hK (mY.weaken ⟨G',hs'.put o.dst hv⟩ hT);exact hn _ _ _ hK ⟨G',hs'.put o.dst hv⟩;clear hnb;split at h;rename_i x;generalize hargs:(first++args.map a.eval++captured)=vs at hr;obtain⟨vs⟩:=vs;match vs,hr with
  |[v],hr=>have hv:=hr.2 0 v x rfl rfl;refine wp_value (v:=v) (w':=w) ?_ (hn _ _ _ h ⟨G,hs.put o.dst hv⟩);have :=hx v w;simp[execOp,ho,resolve,hf,Deferred.ofValue,invoke,hargs,this]
  |[],hr=>simp at hr
  |_::_::_,hr=>simp at hr
 exact h.elim;exact wp_lentC hs ho hf hr h hn;exact wp_lend hs ho hf hr h hn;exact wp_obj hs ho hf hr h hn
theorem wp_yield (hs:bp E G S a w){Y:ov}(hY:eA E Y){f:Operand}{args:Array Operand}{types:Array TypeId}{l:Nat}{K:ag->Prop}(ho:o.op=.call ⟨.value f,args,types⟩)(hf:S.val f=.lM l)(h:Y l (args.toList.map S.val) (λv S'=>K (S'.put o.dst v)) S){next:Act->World->Prop}{Q:Exit->Act->World->Prop}(hn:∀S' a' w',K S'->mY E S' a' w'->next a' w'):AY E o a w next Q:=by
 have Uz:=aO.val hs f;rw[hf]at Uz;generalize KL:a.eval f=v at Uz;cases Uz with
 |lM _ k hk=>
  have hv:=tj hs args.toList;have hY':=hY E.lX [] [] E.fixed G S a w l k;simp only[dS,aW]at hY';have :=hY' _ _ _ hs hk h hv.1 hv.2;obtain⟨fn,tmps,assign,body,h1,h2⟩:=this;refine⟨λf _=>Env.gd f,?_⟩;have hrun:(execOp a.eval o).run E.C.P w=.ok (.round k fn tmps assign body) w:=by
   have he:(args.toList.map a.eval).toArray=args.map a.eval:=by apply kf.1;rw[ng]
   rw[he]at h1;simp[execOp,ho,resolve,KL,Deferred.ofValue,invoke,h1]
  rw[Oper.semAt_eq _ _ _ (λc=>by grind),hrun,Oper.uponIn_round];refine⟨λh=>(by rw[Env.kj]at h;cases h),xX (RoundIn.mono h2 ?_)⟩;rintro e w' ⟨v,x,G',S',rfl,hK,hs',hv⟩;exact hn _ _ _ hK ⟨G',hs'.put o.dst hv⟩
theorem wp_buildSlice (hs:bp E G S a w){t e:TypeId}{len:Nat}{parts:Array (Nat×Operand)}{d0:Nat}{K:ag->Prop}{sa sb:Nat}{sz:List Value}(ho:o.op=.buildSlice t len parts)(VW:o.dst=some d0)(ht:bK E.C.jh t=some ⟨sa,sb,.slice e,sz⟩)(h:lW E.C S t len parts.toList λv=>match v with
 |.full xs=>match bK E.C.jh e with|none=>False|some j=>vC S d0 λnm=>K ((S.kill nm).put (some d0) (.gi nm e j.size xs))
 |_=>False){next:Act->World->Prop}{Q:Exit->Act->World->Prop}(hn:∀S' a' w',K S'->mY E S' a' w'->next a' w'):AY E o a w next Q:=by obtain⟨xs,us,e',j,⟨_,_,_,ht'⟩,hj,hK,hrun,hlen,hr⟩:=xh hs ho h;rw[ht]at ht';have :=ak ht';injection this with _ _ q _;injection q with q;subst q;simp only[hj,lu]at hK;generalize hd:S.off+d0=d at hK;have Gg:Below w.heap.size w (w.alloc (.cells us e)):=(Below.refl _ _).alloc (av _) _;have hsz:(w.alloc (.cells us e)).heap.size=w.heap.size+1:=World.size_alloc w _;have hg:=((hs.Oy Gg λb o=>o<xs.length*j.size).kill d).zB (t:=d) (B:=w.heap.size) (s:=xs.length*j.size) (e:=xs.length*j.size) (T:=e) (uL _ d) (by rw[hsz];omega) hs.kept.size ⟨_,_,World.alloc_heap_new w _,trivial⟩ (λo h=>by simp only[aZ.free]at h;split at h;cases h;have :=(hs.gD o _ h).1;omega) (λt' r h=>by simp only[aZ.free]at h;split at h;cases h;have :=(hs.fS t' _ r.1 r.2.1 r.2.2 h).1;omega) (λo h=>by simp only[aZ.free]at h;split at h;cases h;have :=(hs.iY.row o _ h).2.1;omega) (λi hi hi'=>oO);refine wp_value hrun ?_;rw[VW];exact hn _ _ _ hK ⟨_,hg.put (some d0) (x:=.gi d e j.size xs) (.gi d e j.size xs (some ⟨w.heap.size,0,none⟩) xs.length hr (.inr ⟨w.heap.size,0,rfl,hlen,by simp⟩))⟩
theorem wp_bytes (hs:bp E G S a w){src dst:TypeId}{x:Operand}{d0:Nat}{K:ag->Prop}{s:List UInt8}(ho:o.op=.convert src dst x)(VW:o.dst=some d0)(hx:S.val x=.p (.str s))(h:Ea E.C S src dst d0 s K){next:Act->World->Prop}{Q:Exit->Act->World->Prop}(hn:∀S' a' w',K S'->mY E S' a' w'->next a' w'):AY E o a w next Q:=by
 unfold Ea at h;split at h
 ·rename_i e _ h1 h2;split at h
  ·rename_i by0 z0 he;rw[lu]at h;have GA:=aO.val hs x;rw[hx]at GA;have ex:=GA.jL;have hu1:=(E.C.ok h1).str;have hu2:=(E.C.ok h2).slice;have hu3:=(E.C.ok he).int;have hrun:(execOp a.eval o).run E.C.P w=.ok (.value (.slice (some ⟨w.heap.size,0,none⟩) (⟨s.toArray⟩:ByteArray).size (grownCap w (⟨s.toArray⟩:ByteArray).size 0 e))) (Lib.bytesWorld w e ⟨s.toArray⟩):=by simp[execOp,ho,ex,Lib.run_convert_string_bytes w src dst e ⟨s.toArray⟩ hu1 hu2 hu3]
   have hsz:(⟨s.toArray⟩:ByteArray).size=s.length:=by simp[ByteArray.size]
   rw[hsz]at hrun;have hcap:=grownCap_ge w s.length 0 e;generalize hc:grownCap w s.length 0 e=c at hrun hcap;have hb:Below w.heap.size w (Lib.bytesWorld w e ⟨s.toArray⟩):=⟨rfl,rfl,rfl,by rw[Lib.bytesWorld_size];omega,λk hk=>Lib.bytesWorld_at_old w e _ k hk⟩;have hcs:(Lib.bytesCells w e ⟨s.toArray⟩).size=c:=by simp[Lib.bytesCells,hc,hsz];omega
   have hnew:=Lib.bytesWorld_at_new w e ⟨s.toArray⟩;have hsize:=Lib.bytesWorld_size w e ⟨s.toArray⟩;have nO:dh (λb' o=>G.bh b' o\/(w.heap.size<=b'/\¬(b'=w.heap.size/\0+(s.map λb=>[AV.int .u8 (b.toNat:Int)]).length*1<=o/\o<0+c*1))) (Lib.bytesWorld w e ⟨s.toArray⟩) (.slice (some ⟨w.heap.size,0,none⟩) (s.map λb=>[AV.int .u8 (b.toNat:Int)]).length c) (.sl (s.map λb=>[AV.int .u8 (b.toNat:Int)])):=by
    refine .sl w.heap.size 0 c 1 _ (λi j=>.int .u8 ((s.getD i 0).toNat:Int)) (λi ys hi=>?_) (λi ys j y hi hj=>?_) (λi ys j y hi hj=>?_) (λi ys j y hi hj=>?_) (λi ys j y hi hj=>?_) (by grind);grind;all_goals
     rw[aJ]at hi;obtain⟨b,hb,rfl⟩:=wg.1 hi;have hlt:=(aG.1 hb).1;obtain rfl:j=0:=by
      cases j with
      |zero=>rfl
      |succ j=>simp at hj
     simp at hj;subst hj
    rfl;have :=Lib.bytesWorld_cell w e ⟨s.toArray⟩ i oO;grind;grind;simp[List.getD,hb];exact .int _ _
   obtain⟨G',hg⟩:=sS hs (dst:=o.dst) (r:=.fresh e 1 (s.map λb=>[AV.int .u8 (b.toNat:Int)])) (v:=.slice (some ⟨w.heap.size,0,none⟩) (s.map λb=>[AV.int .u8 (b.toNat:Int)]).length c) hb ⟨some ⟨w.heap.size,0,none⟩,c,rfl,.inr ⟨w.heap.size,0,_,_,rfl,av _,oO,λys hy=>by grind,hnew,λi hi hi'=>by
    refine⟨?_,?_⟩;have hlt:i<(Lib.bytesCells w e ⟨s.toArray⟩).size:=by rw[hcs];omega
    exact⟨_,by simp[World.cell?,hnew,hlt];rfl⟩;have hlt:i<(Lib.bytesCells w e ⟨s.toArray⟩).size:=by rw[hcs];omega
    simp[World.frozen?,hnew];omega,nO⟩⟩;refine wp_value (by grind) (hn _ _ _ ?_ ⟨G',hg⟩);rw[VW];exact h
  grind
 grind
theorem Pk (hs:bp E G S a w){t:TypeId}{x h m:Operand}{K:FV->Prop}(ho:o.op=.slice t x none (some h) (some m))(hk:RG E.C t (S.val x) (S.val h) (S.val m) K):Yields E G a w o K:=by have hx:=aO.val hs x;have hh:=aO.val hs h;have hm:=aO.val hs m;generalize S.val x=vx at hk hx;generalize S.val h=vh at hk hh;generalize S.val m=vm at hk hm;unfold RG at hk;split at hk;rename_i e _ ht;split at hk;grind;rename_i j hj;split at hk;rename_i xs kh a0 km b0 hxs;obtain⟨rfl,rfl,hk⟩:=hk;obtain⟨ad,c,hv,-,-⟩:=(hx.elems hxs).kP;have e1:=hh.fL;have e2:=hm.fL;have hok:=E.C.ok ht;have JN:=hok.slice;have hjs:=(E.C.ok hj).sizeOf w;refine Yields.same (v:=.slice ad 0 0) ?_ hk (.full [] ad (.Uj _ _));simp[execOp,ho,hv,e1,e2,Instr.slice,Instr.sliceAt,run_underlying JN,Instr.sliceBounds,Instr.sliceBound,asIntOf,hjs];grind;grind
theorem wp_evAppN (hs:bp E G S a w){d:Nat}{K:ag->Prop}{x y:Operand}{t u:TypeId}(ho:o.op=.call ⟨.builtin .append,#[x,y],#[t,u]⟩)(hd:o.dst=some d)(hx0:S.val x=.full [])(h:Ms E.C t u d S (S.val y) K){next:Act->World->Prop}{Q:Exit->Act->World->Prop}(hn:∀S' a' w',K S'->mY E S' a' w'->next a' w'):AY E o a w next Q:=by
 have GA:=aO.val hs x;have hy:=aO.val hs y;rw[hx0]at GA;generalize S.val y=vy at h hy;unfold Ms at h;split at h;rename_i e _ ui ht hui;have JN:=(E.C.ok ht).slice;obtain⟨dd,YT,hsh⟩:=(E.C.ok hui).xS;split at h;exact h.elim;rename_i yc;have hdk:∀k,dd≠.int k:=λk e=>by rw[<-hsh,e]at yc;simp[shapeOf,Shape.Fc]at yc
 split at h;exact h.elim;rename_i j hj;have hok:=E.C.ok hj;split at h;rename_i ys hys hb0 hp0;have hb0:=bJ hb0;have p4:0<j.size:=vY (bJ hp0);obtain⟨hne,yb,hbd,h⟩:=h;rw[jF]at h;obtain⟨hdn,zs,rfl,hK⟩:=h;have hm0:0<ys.length:=vM.2 hne;obtain⟨news,n1,n2,n3⟩:=hy.items (P:=E.C.P) (e:=j.size) hys yb;generalize OY:a.eval y=vy at hy n2 n3;generalize MI:a.eval x=vv at GA;cases GA with
 |full _ ad hr0=>
  have nl:news.length=ys.length*j.size:=n1.len;have YU:(aI ys.flatten).length=ys.length*j.size:=by rw[iQ];exact gG yb
  have nr:∀(i:Nat)(z:FV),(aI ys.flatten)[i]?=some z->∃u,news[i]?=some u/\aO G w u z:=λi z hz=>by
   rw[uM]at hz;have hi:i<ys.length*j.size:=by
    rw[<-gG yb];cases hq:ys.flatten[i]?with
    |none=>rw[hq]at hz;cases hz
    |some q=>exact(aG.1 hq).1
   have hq:i/j.size<ys.length:=Cr (by rw[vW];exact hi);have hr:i%j.size<(ys[i/j.size]).length:=by rw[yb _ (aT hq)];exact pn _ p4
   have hii:i/j.size*j.size+i%j.size=i:=Nat.div_add_mod' i j.size;have h1:=an hq;have h2:=an hr;have h3:=mO yb h1 h2;rw[hii]at h3;rw[h3]at hz;obtain rfl:=ak hz;obtain⟨u,e1,e2,-⟩:=n1.at_ _ _ _ _ h1 h2;rw[hii]at e1;exact⟨u,e1,.p _ _ e2⟩
  have of':∀w',(∀b o,w'.cell? ⟨b,o,none⟩=w.cell? ⟨b,o,none⟩)->(Builtin.firstCells j.size 0 (.slice ad 0 0)).run E.C.P w'=.ok ([]:List Value).toArray w':=λw' _=>by cases ad<;>simp[Builtin.firstCells,loadCells,loadCellsFrom]
  obtain⟨rest,z,hz,qe,hrun⟩:=iM (P:=E.C.P) (w:=w) (ty:=o.type) (base:=ad) (n:=0) (c:=0) (news:=news) (olds:=[]) JN YT hdk hok n2 n3 of' oO (by rw[dn];exact hbd) hb0;have hcap:0+ys.length<=grownCap w (0+ys.length) 0 e:=grownCap_ge w _ _ _;generalize hcg:grownCap w (0+ys.length) 0 e=cap at*;have hrl:rest.size=(cap-(0+ys.length))*j.size:=by rw[qe,size_zeroCells,hz]
  have mG:(news++rest.toList).length=cap*j.size:=by simp only[ay,nl,jj,hrl,<-bC];rw[show ys.length+(cap-(0+ys.length))=cap from oO]
  generalize hnm:S.off+d=nm at hK hdn;obtain⟨G',g1,g2,g3⟩:=zC hs.drew nm hdn (zs:=aI ys.flatten) (cells:=news++rest.toList) (s:=ys.length*j.size) (cap:=cap*j.size) (e:=e) YU mG (λi z hz=>by have hk:∀{v:Value}{z:FV},aO G w v z->aO G {w with drawn:=w.drawn+1} v z:=λh=>h.keep (λ_ _ h=>h) (λ_ _ _ _ h=>h) (λ_ _ _ _ h=>h) (λ_ _ h=>h) (λ_ _ h=>h);obtain⟨u,h2,h3⟩:=nr i z hz;have Ye:=(aG.1 h2).1;exact⟨u,by rw[cV Ye];exact h2,hk h3⟩);rw[iZ]at g1;have hW:w.drew.alloc (.cells (([]:List Value).toArray++news.toArray++rest) e)=({w with drawn:=w.drawn+1}:World).alloc (.cells (news++rest.toList).toArray e):=by
   have :([]:List Value).toArray++news.toArray++rest=(news++rest.toList).toArray:=by apply kf.1;simp
   rw[this];rfl
  rw[hW]at hrun;refine wp_value (v:=.slice (some ⟨w.heap.size,0,none⟩) (0+ys.length) cap) (w':=({w with drawn:=w.drawn+1}:World).alloc (.cells (news++rest.toList).toArray e)) ?_ (hn _ _ _ hK ⟨G',?_⟩);simp[execOp,ho,resolve,invoke,builtin,MI,OY]at hrun⊢;rw[hrun];rfl;rw[hd];exact g1.put (some d) (v:=.slice (some ⟨w.heap.size,0,none⟩) (0+ys.length) cap) (x:=.fT nm e j.size) (.fT nm e j.size (0+ys.length) cap w.heap.size g2 (by rw[dn];exact g3) hcap p4)
 exact h.elim;exact h.elim
theorem tu {call:iG}{Y:ov}(dm:mC E.C call)(hY:eA E Y)(hs:bp E G S a w){K:ag->Prop}(h:BQ E.C call Y o K S){next:Act->World->Prop}{Q:Exit->Act->World->Prop}(hn:∀S' a' w',K S'->mY E S' a' w'->next a' w'):AY E o a w next Q:=by
 have akf:ej E.C S o.op (λv=>K (S.put o.dst v))->AY E o a w next Q:=λh=>Fj hs h λx v G' w' hk hs' hv=>hn _ _ _ hk ⟨G',hs'.put o.dst hv⟩;unfold BQ at h;split at h;rename_i fn first captured hop;obtain⟨fr,h⟩:=h;obtain⟨S',h,G',hs'⟩:=yf fr h ⟨G,hs⟩;simp only[jS]at h;exact wp_of_yields hs' (xg (K:=λx=>K (S'.put o.dst x)) hs' hop h) λx v G' w' hk hs' hv=>hn _ _ _ hk ⟨G',hs'.put o.dst hv⟩;rename_i t len parts hop;split at h;rename_i d _ _ e _ hd ht;split at h;exact wp_openSlice hs hop hd ht h hn;exact wp_buildSlice hs hop hd ht h hn;grind;rename_i t hop;split at h;rename_i d i hd hi;obtain⟨z,hz,Gz⟩:=(E.C.ok hi).zeroV w;have hns:=λhdn=>Cq hs d hdn i.zero (i.zero.map FV.gT) t (qt _);have hrun:(execOp a.eval o).run E.C.P w=.ok (.value (.pointer (some ⟨w.heap.size,0,none⟩))) (w.alloc (.cells i.zero.toArray t)):=by
  have :z.cells=i.zero.toArray:=by rw[<-Gz]
  simp[execOp,hop,Instr.alloc,hz,newVar,newRow,this]
 split at h;rename_i hbt hz0;obtain rfl:=aK hbt;rw[Ho]at h;obtain⟨hdn,h⟩:=h;obtain⟨G',hg,hgl,hgr⟩:=hns hdn;refine wp_value hrun (hn _ _ _ h ⟨G',?_⟩);rw[hd];have hw:(w.alloc (.cells i.zero.toArray E.C.bT)).heap[w.heap.size]?=some (.cells #[.pointer none,.slice none 0 0] E.C.bT (0,0)):=by rw[World.alloc_heap_new,hz0]
 exact hg.ahj (rest:=S.aD) rfl hgl hgr.1 hgr.2 hw;rw[jS,vE]at h;obtain⟨hdn,h⟩:=h;obtain⟨G',hg,hgl,hgr⟩:=hns hdn;refine wp_value hrun (hn _ _ _ h ⟨G',hd▸hg⟩);grind;rename_i t x hop;split at h;rename_i d i hd hi;split at h;rename_i hl;split at h;rename_i h1;rw[jS,vE]at h;obtain⟨hdn,h⟩:=h;have hx:=aO.val hs x;obtain⟨OP,-⟩:=qq hx h1;obtain⟨G',hg,-,-⟩:=Cq hs d hdn (a.eval x).cells.toList (S.val x).cells t OP;refine wp_value (v:=.pointer (some ⟨w.heap.size,0,none⟩)) (w':=w.alloc (.cells (a.eval x).cells.toList.toArray t)) ?_ (hn _ _ _ h ⟨G',hd▸hg⟩);simp[execOp,hop,Instr.box,newVar,newRow];grind;grind;grind;rename_i t ad x hop;split at h;rename_i i ob off hi vo;split at h;grind;rename_i cells hcells;split at h;rename_i hl;split at h;rename_i h1;split at h;rename_i cs hcs;rw[jS]at h;have hx:=aO.val hs x;have had:=aO.val hs ad;rw[vo]at had;obtain⟨b,hv,fJ⟩:=had.og;obtain⟨hg,hrun⟩:=xY hs hcells fJ hx h1 hcs;obtain⟨OP,-⟩:=qq hx h1;have hsz:(a.eval x).cells.size=i.size:=by rw[<-aK hl,<-OP.1];simp
 have hr:(execOp a.eval o).run E.C.P w=.ok .skip (w.setCells b off (a.eval x).cells.toList):=by simp[execOp,hop,hv,Instr.storeAt,Instr.sureAddr,storeVar,(E.C.ok hi).sizeOf,hsz,hrun]
 refine⟨λf _=>Env.gd f,?_⟩;rw[Oper.semAt_eq _ _ _ (λc=>by grind),hr];exact hn _ _ _ h ⟨G,hg.put o.dst (v:=undef) (jD _ _)⟩;grind;grind;grind;rename_i i ob base off hi vo;split at h;grind;rename_i cells hcells;split at h;rename_i hl;split at h;rename_i h1;obtain⟨A,ys,B,hmid,hA,h⟩:=h;split at h;rename_i zs hzs;rw[jS]at h;obtain⟨cs,rfl,h⟩:=h;have hx:=aO.val hs x;have had:=aO.val hs ad;rw[vo]at had;obtain⟨b,hv,fJ⟩:=had.xT.og;have hcs:gE cells (base+off) (S.val x).cells=some (A++(zs++B)):=by rw[hmid];exact Cs hA hzs
 obtain⟨hg,hrun⟩:=xY hs hcells fJ hx h1 hcs;obtain⟨OP,-⟩:=qq hx h1;have hsz:(a.eval x).cells.size=i.size:=by rw[<-aK hl,<-OP.1];simp
 have hr:(execOp a.eval o).run E.C.P w=.ok .skip (w.setCells b (base+off) (a.eval x).cells.toList):=by simp[execOp,hop,hv,Instr.storeAt,Instr.sureAddr,storeVar,(E.C.ok hi).sizeOf,hsz,hrun]
 refine⟨λf _=>Env.gd f,?_⟩;rw[Oper.semAt_eq _ _ _ (λc=>by grind),hr];exact hn _ _ _ h ⟨G,hg.put o.dst (v:=undef) (jD _ _)⟩;grind;grind;grind;grind;rename_i t hop;split at h;rename_i d hd;exact wp_makeMap hs hop hd h hn;grind;rename_i t len cap hop;split at h;rename_i d hd;exact wp_make hs hop hd h hn;grind;rename_i t m k x hop;exact wp_upd hs (.inl hop) h hn;rename_i t m k x hop;exact wp_upd hs (.inr hop) h hn;rename_i t x lo hi mx hop;unfold Ol at h;split at h;rename_i k T bI hx;split at h;exact wp_evCutO hs hop hx h hn;exact wp_evTailO hs hop hx h hn;grind;split at h;exact wp_of_yields hs (Pk (K:=λv=>K (S.put o.dst v)) hs hop h) λx v G' w' hk hs' hv=>hn _ _ _ hk ⟨G',hs'.put o.dst hv⟩;grind;rename_i src ty x hop;unfold Un at h;split at h;rename_i d _ hd;split at h;rename_i hx;exact wp_bytes hs hop hd hx h hn;grind;grind
 ·rename_i c hop;obtain⟨callee,args,types⟩:=c;simp only at h;split at h;split at h;rename_i vx vy t u d hargs HM hd;obtain⟨args⟩:=args;obtain⟨types⟩:=types;simp only at hargs HM;subst HM;cases args with
  |nil=>grind
  |cons x args=>
   cases args with
   |nil=>grind
   |cons y args=>
    cases args with
    |cons z args=>grind
    |nil=>simp only[bw,fV,kg,and_true]at hargs;obtain⟨rfl,rfl⟩:=hargs;split at h;rename_i o2 T2 e2 hy2;exact wp_evAppO hs hop hd hy2 h hn;unfold RE at h;split at h;split at h;rename_i hx0;exact wp_evAppN hs hop hd hx0 h hn;exact wp_evAppend hs hop hd h hn;exact wp_evAppend hs hop hd h hn
  grind;split at h;rename_i vx t hargs HM;obtain⟨args⟩:=args;obtain⟨types⟩:=types;simp only at hargs HM;subst HM;match args,hargs with|[x],hargs=>simp only[bw,fV,kg,and_true]at hargs;rw[<-hargs]at h;exact wp_evClear hs hop h hn
  grind;exact wp_of_yields hs (xV hs hop h) λx v G' w' hk hs' hv=>hn _ _ _ hk ⟨G',hs'.put o.dst hv⟩
  ·rename_i f;have Uz:=aO.val hs f;unfold Mp at h;have byC:∀{g:FuncId}{first captured:Array Value}{xs:List AV},a.eval f=.func (.func g) first captured->((first++args.map a.eval++captured).toList.length=xs.length/\∀(i:Nat)(c:Value)(x:AV),(first++args.map a.eval++captured).toList[i]?=some c->xs[i]?=some x->dh G.bh w c x)->(∃R,au E.C g xs R/\∀r,R r->JD S o.dst r K)->AY E o a w next Q:=λhv hr ⟨R,hc,hk⟩=>wp_call hs hop hv hr hc λr v w' hR hb hok=>by obtain⟨Yf,hk'⟩:=Gu (hk r hR);obtain⟨G',hg⟩:=sS hs (dst:=o.dst) hb hok Yf;exact hn _ _ _ hk' ⟨G',hg⟩
   split at h;rename_i g first captured hf;rw[hf]at Uz;obtain⟨fs,cs,hv,h1,h2⟩:=RP Uz;split at h;have h3:=lS (lS (yg (G:=G) h1 rfl) (tj hs args.toList)) (yg (G:=G) h2 rfl);exact wp_inl hs dm hY (first:=fs.toArray) (captured:=cs.toArray) hop hv (by simpa using h3) h hn;split at h;rename_i xs hxs;have h3:=vT (vT h1 (ni (tj hs args.toList) hxs)) h2;exact byC (first:=fs.toArray) (captured:=cs.toArray) hv (by simpa using h3) h;have h3:=lS (lS (yg (G:=G) h1 rfl) (tj hs args.toList)) (yg (G:=G) h2 rfl);exact wp_inl hs dm hY (first:=fs.toArray) (captured:=cs.toArray) hop hv (by simpa using h3) h hn;rename_i g first captured hf;rw[hf]at Uz;obtain⟨fs,cs,hv,h1,h2⟩:=ME Uz;have h3:=lS (lS h1 (tj hs args.toList)) h2;split at h;rename_i xs hxs;exact byC (first:=fs.toArray) (captured:=cs.toArray) hv (by simpa using ni h3 hxs) h;exact wp_inl hs dm hY (first:=fs.toArray) (captured:=cs.toArray) hop hv (by simpa using h3) h hn;rename_i l hf;exact wp_yield hs hY hop hf h hn;grind
  grind
 grind
theorem sg (hs:bp E G S a w){ops:Array Oper}{j d:Nat}{b:Bool}(hd:(ops[j]?).bind (·.dst)=some d)(hg:S.get d=.p (.bool b)):yielded ops a.tmps j=some b:=by
 have h:=aO.get hs d;rw[hg]at h;have h:=h.mN;unfold yielded;rw[hd];have hlt:d<a.tmps.size:=by rw[hs.size];unfold ag.get at hg;split at hg;simp_all;cases hg
 simp_all
theorem qL (hs:bp E G S a w){ops:Array Oper}{j d:Nat}(hd:(ops[j]?).bind (·.dst)=some d)(hg:S.get d=.p (.eS [])):yielded ops a.tmps j=none:=by have h:=aO.get hs d;rw[hg]at h;have h:=h.VN;unfold yielded;rw[hd];simp only[rV];by_cases hlt:d<a.tmps.size;rw[Cy hlt];simp only[Array.getD,hlt,dite_true]at h;change a.tmps[d]=_ at h;rw[h];rfl;grind
theorem Fo {call:iG}{Y:ov}(dm:mC E.C call)(hY:eA E Y){ops:Array Oper}{K:ag->Prop}{Q:Exit->Act->World->Prop}(hQ:∀S' a' w',K S'->mY E S' a' w'->Q .normal a' w'):∀(l:List Oper)(S:ag)(a:Act)(w:World),oE E.C call Y ops l K S->mY E S a w->wpListIn E.je 0 E.C.P ops Q l a w:=by
 intro l;induction l with
 |nil=>intro S a w h hs;exact wpListIn_nil (hQ _ _ _ h hs)
 |cons o l ih=>intro S a w h hs;obtain⟨G,hs⟩:=hs;simp only[oE]at h;refine wpListIn_step λK' Bd=>?_;split at h;rename_i hg;rw[af (by simp[Region.wanted,hg])];exact tu dm hY hs h λS' a' w' hk hs'=>Bd _ _ (ih _ _ _ hk hs');rename_i j want hg;split at h;grind;rename_i d hd;split at h;rename_i b hb;have hy:=sg hs hd hb;split at h;rename_i Fp;rw[nT]at Fp;rw[af (by simp[Region.wanted,hg,hy,beq_iff_eq.1 Fp])];exact tu dm hY hs h λS' a' w' hk hs'=>Bd _ _ (ih _ _ _ hk hs');rename_i Fp;rw[nT]at Fp;rw[aa (by simp[Region.wanted,hg,hy];grind)];exact⟨λf _=>Env.gd f,Bd _ _ (ih _ _ _ h ⟨G,hs.put o.dst (jD G w)⟩)⟩;rename_i hb;have hy:=qL hs hd hb;rw[aa (by simp[Region.wanted,hg,hy])];exact⟨λf _=>Env.gd f,Bd _ _ (ih _ _ _ h ⟨G,hs.put o.dst (jD G w)⟩)⟩;grind
structure Off (ds:List Nat)(S S':ag):Prop where
 n:S'.n=S.n
 off:S'.off=S.off
 bD:S'.bD=S.bD
 cm:S'.cm=S.cm
 cz:S'.cz=S.cz
 aD:S'.aD=S.aD
 maps:S'.maps=S.maps
 jg:S'.jg=S.jg
 tmps:∀i,gv i ds=false->S'.tmps i=S.tmps i
theorem Off.put {ds:List Nat}{S S':ag}(h:Off ds S S'){dst:Option Nat}(hd:∀d,dst=some d->d∈ds)(v:FV):Off ds S (S'.put dst v):=by
 cases dst with
 |none=>exact h
 |some d=>
  refine⟨h.n,h.off,h.bD,h.cm,h.cz,h.aD,h.maps,h.jg,λi hi=>?_⟩;simp only[ag.put];have hne:i≠d:=λe=>by have :=nV.2 (hd d rfl);grind
  have :Nat.beq i d=false:=by cases hb:Nat.beq i d;rfl;simp_all
  rw[this];exact h.tmps i hi
theorem UA {C:Ctx}{ops:Array Oper}{ds:List Nat}{S0:ag}:∀(l:List Oper)(K:ag->Prop)(S:ag),(∀o,o∈l->∀d,o.dst=some d->d∈ds)->Off ds S0 S->Gw C ops l K S->Gw C ops l (λS'=>K S'/\Off ds S0 S') S:=by
 intro l;induction l with
 |nil=>intro K S _ ho h;exact⟨h,ho⟩
 |cons o l ih=>
  intro K S hl ho h;have hd:=hl o kq;have hl':=λo' ho'=>hl o' (cg _ ho');simp only[Gw]at h⊢;split at h;rename_i hg;obtain⟨v,h1,h2⟩:=h;try simp only[hg]
  exact⟨v,h1,ih _ _ hl' (ho.put hd v) h2⟩;rename_i j want hg;try simp only[hg]
  split at h;exact h.elim;rename_i d hdj;try simp only[hdj]
  split at h;rename_i b hb;first|rw[hb]|skip
  cases hsb:Hq b want with
  |true=>simp only[hsb]at h⊢;obtain⟨v,h1,h2⟩:=h;exact⟨v,h1,ih _ _ hl' (ho.put hd v) h2⟩
  |false=>simp only[hsb]at h⊢;exact ih _ _ hl' (ho.put hd _) h
  rename_i hb;first|rw[hb]|skip
  exact ih _ _ hl' (ho.put hd _) h;exact h.elim
theorem En {K:FV->Prop}(hs:bp E G S a w){v:FV}(h:ej E.C S o.op λu=>u=v){next:Act->World->Prop}{Q:Exit->Act->World->Prop}(hn:∀a' w',mY E (S.put o.dst v) a' w'->next a' w'):AY E o a w next Q:=Fj hs h λx u G' w' hk hs' hv=>hn _ _ ⟨G',by subst hk;exact hs'.put o.dst hv⟩
theorem Wb {ops:Array Oper}{K:ag->Prop}{Q:Exit->Act->World->Prop}(hQ:∀S' a' w',K S'->mY E S' a' w'->Q .normal a' w'):∀(l:List Oper)(S:ag)(a:Act)(w:World),Gw E.C ops l K S->mY E S a w->wpListIn E.je 0 E.C.P ops Q l a w:=by
 intro l;induction l with
 |nil=>intro S a w h hs;exact wpListIn_nil (hQ _ _ _ h hs)
 |cons o l ih=>intro S a w h hs;obtain⟨G,hs⟩:=hs;simp only[Gw]at h;refine wpListIn_step λK' Bd=>?_;split at h;rename_i hg;rw[af (by simp[Region.wanted,hg])];obtain⟨v,h1,h2⟩:=h;exact En (K:=λ_=>True) hs h1 λa' w' hs'=>Bd _ _ (ih _ _ _ h2 hs');rename_i j want hg;split at h;grind;rename_i d hd;split at h;rename_i b hb;have hy:=sg hs hd hb;split at h;rename_i Fp;rw[nT]at Fp;rw[af (by simp[Region.wanted,hg,hy,beq_iff_eq.1 Fp])];obtain⟨v,h1,h2⟩:=h;exact En (K:=λ_=>True) hs h1 λa' w' hs'=>Bd _ _ (ih _ _ _ h2 hs');rename_i Fp;rw[nT]at Fp;rw[aa (by simp[Region.wanted,hg,hy];grind)];exact⟨λf _=>Env.gd f,Bd _ _ (ih _ _ _ h ⟨G,hs.put o.dst (jD G w)⟩)⟩;rename_i hb;have hy:=qL hs hd hb;rw[aa (by simp[Region.wanted,hg,hy])];exact⟨λf _=>Env.gd f,Bd _ _ (ih _ _ _ h ⟨G,hs.put o.dst (jD G w)⟩)⟩;grind
theorem bt.refl (x:FV):bt x x:=λ_ _ _ h=>h
theorem bt.dy (x:FV):bt x .dy:=λ_ _ _ _=>.dy _
theorem Pm {K:ag->Prop}{S':ag}:∀(rs:List Nat)(T:ag)(φ:List FV->Prop),Eb K T rs φ->φ (getAll S' rs)->cq S' T->∃T',K T'/\cq S' T':=by
 intro rs;induction rs with
 |nil=>intro T φ h hφ hw;exact⟨T,h.out hφ,hw⟩
 |cons r rs ih=>intro T φ h hφ hw;refine ih _ _ (h.out (S'.get r)) hφ ⟨hw.n,hw.off,hw.cm,hw.cz,hw.bD,λi=>?_,hw.aD,hw.maps,hw.jg⟩;simp only[ag.put];split;rename_i hb;obtain rfl:=aK hb;unfold ag.get;split;exact bt.refl _;exact bt.dy _;exact hw.tmps i
theorem Off.weaken {ds:List Nat}{S S':ag}(h:Off ds S S'):cq S' (S.ur ds):=by
 refine⟨h.n.symm,h.off.symm,h.cm.symm,λo bs q=>⟨by rw[h.cz];exact q,λq2=>by show Qv.getObj S.aD o=none;rw[<-h.aD];exact q2⟩,⟨by show S.bD.length=_;rw[h.bD],λi f f' h1 h2=>by have h2':S.bD[i]?=some f':=h2;rw[h.bD,h2']at h1;obtain rfl:=ak h1;exact⟨rfl,rfl,λ_=>bt.refl _⟩⟩,λi=>?_,λo ys ho=>?_,λo l hl=>?_,λq x hx=>by rw[h.jg];exact hx⟩;simp only[ag.ur];cases hm:gv i ds with
 |true=>exact bt.dy _
 |false=>simp only;rw[h.tmps i hm];exact bt.refl _
 rw[h.aD];exact⟨ys,ho,rfl,λi x y hx hy=>by rw[hx]at hy;obtain rfl:=ak hy;exact bt.refl _⟩;rw[h.maps];exact⟨l,hl,rfl,λi p p' h1 h2=>by rw[h1]at h2;obtain rfl:=ak h2;exact⟨rfl,bt.refl _⟩⟩
theorem RV {l:List Oper}{o:Oper}(h:o∈l){d:Nat}(hd:o.dst=some d):d∈dstsOf l:=by
 induction l with
 |nil=>cases h
 |cons p l ih=>simp only[dstsOf];grind
end
end Qv
