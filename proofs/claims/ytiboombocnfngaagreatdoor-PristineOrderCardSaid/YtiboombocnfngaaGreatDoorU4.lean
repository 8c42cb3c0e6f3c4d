/- Part 4 of the proof: its lemmas. No condition. -/
import Derived.Test.YtiboombocnfngaaGreatDoorU3
import Derived.WideKeyEntry
import Derived.Lib.ConvBytes
import Derived.Laws.MakeOwn
set_option maxRecDepth 10000
set_option maxHeartbeats 80000000
set_option linter.all false
namespace Qv
open Go Go.RowKit
theorem Ph {α:Type}{d o:Nat}{x:α}(hne:o≠d):∀{l:List (Nat×α)},getM l o=some x->getM (Aw d l) o=some x:=by
 intro l;induction l with
 |nil=>intro h;cases h
 |cons p l ih=>obtain⟨u,i⟩:=p;intro h;simp only[getM]at h;simp only[Aw];split at h;rename_i hb;obtain rfl:=aM hb;split;simp_all;simp only[getM,ji];omega;rename_i hb;split;simp_all;simp only[getM,hb];simp_all
def Env.Pj (E:Env)(ob:Nat):Env:=⟨E.C.open {E.C.ex with Mi:=Aw ob E.C.ex.Mi},E.w0,E.Ek,E.hJ,E.hn,E.mj,E.bK,E.loops,E.fixed,E.own,E.hown,E.rP,E.rows,E.Co,E.hrows⟩
section
variable {E:Env}{G:bf}{S:aj}{a:Act}{w:World}{o:Oper}
theorem bt.Pj (h:bt E G S a w)(ob:Nat):bt (E.Pj ob) G S a w:=have hm:=h.ext'.mps;⟨h.kept,h.size,⟨⟨hm.at_,hm.loc,hm.inj,hm.je,hm.AG,hm.AH,hm.apart,λo T z k l b gu es q1 q2=>hm.room o T z k l b gu es q1 (qa q2).2⟩,h.ext'.lz,h.ext'.bK,h.ext'.kg,h.ext'.loops,h.ext'.lB,h.ext'.yl,h.ext'.mj,h.ext'.marks,h.ext'.Ay⟩,⟨h.iX.at_,h.iX.row,h.iX.di⟩,h.nN,h.fh,h.tmps,h.aI,h.gG,h.eY,h.cz,h.fQ,h.er⟩
theorem bt.afU {ob:Nat}(h:bt (E.Pj ob) G S a w)(hr:∀(T:TypeId)(z:Nat)(k:Option AV)(l:List (AV×FV))(b gu:Nat)(es:List MapEntry),getM S.maps ob=some l->getM E.C.ex.Mi ob=some (T,z,k)->G.mp ob=some b->w.heap[b]?=some (.map es.toArray gu)->∀(i:Nat)(e:MapEntry)(p:AV×FV),es[i]?=some e->l[i]?=some p->k≠some p.1->El G T z ob e):bt E G S a w:=have hm:=h.ext'.mps;⟨h.kept,h.size,⟨⟨hm.at_,hm.loc,hm.inj,hm.je,hm.AG,hm.AH,hm.apart,λo T z k l b gu es q1 q2=>by by_cases e:o=ob;grind;exact hm.room o T z k l b gu es q1 (Ph e q2)⟩,h.ext'.lz,h.ext'.bK,h.ext'.kg,h.ext'.loops,h.ext'.lB,h.ext'.yl,h.ext'.mj,h.ext'.marks,h.ext'.Ay⟩,⟨h.iX.at_,h.iX.row,h.iX.di⟩,h.nN,h.fh,h.tmps,h.aI,h.gG,h.eY,h.cz,h.fQ,h.er⟩
theorem bt.Pk (hs:bt E G S a w)(q:Nat×Nat)(hq:getM E.C.ex.Mi q.1=none):bt E {G with tail:=λt=>if t=.inr q then none else G.tail t} S a w:=by have up:∀v x,aT G w v x->aT {G with tail:=λt=>if t=.inr q then none else G.tail t} w v x:=λv x h=>h.keep (λ_ _ h=>h) (λ_ _ _ _ h=>h) (.refl _ _) (λ_ _ h=>h) (λt r h=>by simp_all);have hm:=hs.ext'.mps;refine⟨hs.kept,hs.size,⟨⟨λo l ho=>?_,hm.loc,hm.inj,hm.je,hm.AG,hm.AH,hm.apart,λo T z k l b gu es q1 q2 q3 q4 i e p q5 q6 q7=>?_⟩,hs.ext'.lz,λi vals fr h1 h2=>?_,hs.ext'.kg,hs.ext'.loops,hs.ext'.lB,hs.ext'.yl,hs.ext'.mj,hs.ext'.marks,hs.ext'.Ay⟩,hs.iX.keep rfl rfl (λo bs q=>⟨q,rfl,rfl⟩) (λ_ _ _ q=>q) (λ_ _ e=>e) (aA _) (λ_ _ _ _ _ _=>rfl) (λ_ _ _=>rfl) (λ_ _ _ _ e=>e) (λ_ _ _ _ e=>e) (λo r t z _ e=>?_),hs.nN,hs.fh,λi hi=>up _ _ (hs.tmps i hi),λo cells ho=>?_,hs.gG,hs.eY,λo t b r h h'=>?_,λt b s e T h=>?_,λt t' b r r' h h'=>?_⟩;obtain⟨b,gu,es,h1,h2,h3,h4,h5⟩:=hm.at_ o l ho;grind;obtain⟨ad,n,c,g1,g2⟩:=hm.room o T z k l b gu es q1 q2 q3 q4 i e p q5 q6 q7;refine⟨ad,n,c,g1,g2.imp id λ⟨b2,off,g3,g4⟩=>⟨b2,off,g3,?_⟩⟩;grind;obtain⟨h3,h4⟩:=hs.ext'.bK i vals fr h1 h2;simp_all;grind;obtain⟨b,h1,h2⟩:=hs.aI o cells ho;grind;simp only at h';split at h';grind;exact hs.cz o t b r h h';simp only at h;split at h;grind;exact hs.fQ t b s e T h;simp only at h h';split at h;grind;split at h';grind;exact hs.er t t' b r r' h h'
theorem bt.YP (hs:bt E G S a w){b s0:Nat}{news:List Value}(hlt:b<w.heap.size)(hw0:E.w0.heap.size<=b)(hty:∃cs T fr,w.heap[b]?=some (.cells cs T fr))(hfree:∀i,s0<=i->i<s0+news.length->¬G.bk b i)(fF:∀o,G.loc o≠some b)(hrow:∀o,G.row o≠some b)(RZ:∀t r,G.tail t≠some (b,r)):bt E {G with bk:=λb' o=>G.bk b' o\/(b'=b/\s0<=o/\o<s0+news.length)} S a (w.setCells b s0 news)/\(∀b' i c,G.bk b' i->w.cell? ⟨b',i,none⟩=some c->(w.setCells b s0 news).cell? ⟨b',i,none⟩=some c):=by
 obtain⟨tcs,tT,tfr,tty⟩:=hty;have hcell:∀b' i c,G.bk b' i->w.cell? ⟨b',i,none⟩=some c->(w.setCells b s0 news).cell? ⟨b',i,none⟩=some c:=λb' i c hi hc=>by rw[World.cell?_setCells_out b news s0 w ⟨b',i,none⟩ (λe _=>by grind)];omega
 have hout:∀b2 i,b2≠b->(w.setCells b s0 news).cell? ⟨b2,i,none⟩=w.cell? ⟨b2,i,none⟩:=λb2 i hne=>World.cell?_setCells_out b _ s0 w ⟨b2,i,none⟩ (λe=>absurd e hne);have hfz:∀x,(w.setCells b s0 news).frozen? x=w.frozen? x:=λx=>World.frozen?_setCells b _ s0 w x;have hsz:=gW b news s0 w;have up:∀v x,aT G w v x->aT {G with bk:=λb' o=>G.bk b' o\/(b'=b/\s0<=o/\o<s0+news.length)} (w.setCells b s0 news) v x:=λv x hv=>hv.keep (λ_ _ h=>.inl h) hcell ((fV.setCells b _ _ _).pY _) (λ_ _ h=>h) (λ_ _ h=>h);have HB:lY (λx=>x) G {G with bk:=λb' o=>G.bk b' o\/(b'=b/\s0<=o/\o<s0+news.length)} S S w:=⟨λ_=>rfl,λo l' h=>⟨l',h,(Mw l').symm,λb hb=>hb⟩,λq x h=>⟨h,λr hr=>hr⟩,λo b h=>h,λo b h=>h,λb' i es n hb _ h=>h.elim id λh=>by simp_all,λ_ h=>.inl h,λ_ _ h=>.inl h,λ_ _ h=>h⟩;refine⟨⟨hs.kept.setCells (.inl hw0) _ _,hs.size,hs.ext'.keep rfl rfl rfl up (.setCells _ _ _ _) (HB:=HB),?_,?_,?_,λi hi=>up _ _ (hs.tmps i hi),λo cells ho=>?_,λo b' ho=>?_,hs.eY,hs.cz,λt b' s e T' h=>?_,hs.er⟩,hcell⟩;refine hs.iX.keep rfl rfl (λo bs q=>⟨q,rfl,rfl⟩) (λ_ _ _ q=>q) (λ_ _ e=>e) oO (λo bs b2 q q2 e=>fT _ _ _ _ _ (λe2=>fF o (e2▸e))) (λo r e=>fT _ _ _ _ _ (λe2=>hrow o (e2▸e))) (λo r i e hi=>?_) (λ_ _ _ _ e=>e) (λ_ _ t q _ e=>⟨t,q,e⟩);grind;rintro b' o (h|⟨rfl,-,-⟩);exact hs.nN b' o h;omega;rintro b' o (h|⟨rfl,-,-⟩);rw[hsz];exact hs.fh b' o h;omega;obtain⟨b',h1,h2⟩:=hs.aI o cells ho;grind;obtain⟨k1,k2,k3⟩:=hs.gG o b' ho;grind;obtain⟨k1,k2,kt,k3⟩:=hs.fQ t b' s e T' h;have hb:b'≠b:=λe'=>RZ t _ (e'▸h);refine⟨oO,k2,jv _ _ _ _ _ _ kt,λi hi hi'=>?_⟩;simp_all
theorem Pm (hs:bt E G S a w){q:Nat×Nat}(hq:getM E.C.ex.Mi q.1=none){xs ys:List (List AV)}{ad:Option Addr}{c:Nat}{yv:Value}{t u elem ty:TypeId}{dd:TypeDesc}{i:jF}{news:List Value}(ht:E.C.P.underlying t=some (.slice elem))(hu:E.C.P.underlying u=some dd)(hd:∀k,dd≠.int k)(hi:fN E.C.P elem i)(hx:dA G.bk w (.slice ad xs.length c) (.sl xs))(JY:∀zs,zs∈xs->zs.length=i.size)(yL:∀zs,zs∈ys->zs.length=i.size)(hle:xs.length<=c)(hroom:(xs.length=0/\c=0)\/∃b off,(ad=some ⟨b,off,none⟩/\off=0)/\G.tail (.inr q)=some (b,off+xs.length*i.size,off+c*i.size,elem))(hn:Flat G.bk w i.size ys news)(hl:(Builtin.lenOf yv).run E.C.P w=.ok ys.length w)(hf:∀w',(∀b o,w'.cell? ⟨b,o,none⟩=w.cell? ⟨b,o,none⟩)->(Builtin.firstCells i.size ys.length yv).run E.C.P w'=.ok news.toArray w')(hb:(xs.length+ys.length)*i.bytes<=2^47)(hb0:i.bytes≠0):∃ad' c' w' G',(Builtin.append_ #[t,u] ty #[.slice ad xs.length c,yv]).run E.C.P w=.ok (.slice ad' (xs++ys).length c') w'/\bt E G' S a w'/\dA G'.bk w' (.slice ad' (xs++ys).length c') (.sl (xs++ys))/\(((xs++ys).length=0/\c'=0)\/∃b off,(ad'=some ⟨b,off,none⟩/\off=0)/\G'.tail (.inr q)=some (b,off+(xs++ys).length*i.size,off+c'*i.size,elem))/\(∀q' r,q'≠q->G.tail (.inr q')=some r->G'.tail (.inr q')=some r)/\G'.mp=G.mp/\fV w w':=by
 by_cases h0:ys=[];subst h0;have hnews:news=[]:=bQ.1 (by rw[hn.len];simp);subst hnews;have hrun:=mP (P:=E.C.P) (w:=w) (ty:=ty) (base:=ad) ht hu hd hi hl (hf w λ_ _=>rfl) hle;refine⟨ad,c,w,G,by simp_all,hs,by simp_all,by simp_all,λ_ _ _ h=>h,rfl,.refl _⟩;have hm:0<ys.length:=nR.2 h0;have hlen:(xs++ys).length=xs.length+ys.length:=ay;by_cases hc:xs.length+ys.length<=c;rcases hroom with hroom|⟨b,off,⟨rfl,hoff⟩,RZ⟩;omega;obtain⟨t1,t2,tt,t3⟩:=hs.fQ _ _ _ _ _ RZ;have hqe:off+xs.length*i.size+news.length<=off+c*i.size:=by have :=ew i.size hc;rw[bw]at this;rw[hn.len];omega
 have hrun:=nZ (P:=E.C.P) (w:=w) (ty:=ty) (b:=b) (off:=off) ht hu hd hi hl (hf w λ_ _=>rfl) hc (λj hj=>by obtain⟨⟨u,hu⟩,-,-⟩:=t3 (off+xs.length*i.size+j) oO oO;simp_all) (λj hj=>(t3 (off+xs.length*i.size+j) oO oO).2.1) hn.one;have ae3:∀o,G.loc o≠some b:=λo h=>by have :=(hs.cz o _ b _ h RZ).1;simp_all
 have KR:∀o,G.row o≠some b:=λo h=>(hs.iX.row o b h).2.2.2.2.1 _ _ RZ;have hs1:=hs.Pk q hq;have ahF:∀t r,({G with tail:=λt=>if t=.inr q then none else G.tail t}:bf).tail t≠some (b,r):=λt r h=>by simp only at h;split at h;grind;rename_i hne;exact hne (hs.er t _ b _ _ h RZ)
 obtain⟨f1,f3⟩:=hs1.YP (news:=news) (s0:=off+xs.length*i.size) t1 t2 (let⟨cs,fr,h,_⟩:=tt;⟨cs,_,fr,h⟩) (λj h1 h2=>(t3 j h1 oO).2.2) ae3 KR ahF;have hg:=f1.Aa (t:=.inr q) (B:=b) (s:=off+xs.length*i.size+news.length) (e:=off+c*i.size) (T:=elem) (by simp) (by rw[gW];omega) t2 (jv _ _ _ _ _ _ tt) ae3 ahF KR (λj hj hj'=>by obtain⟨⟨u,hu⟩,g2,g3⟩:=t3 j oO oO;refine⟨⟨u,?_⟩,by rw[World.frozen?_setCells];omega,?_⟩;rw[World.cell?_setCells_out b news _ w ⟨b,j,none⟩ (λ_ _=>by simp_all)];omega;simp_all);refine⟨_,c,_,_,by simp_all,hg,?_,.inr ⟨b,off,⟨rfl,hoff⟩,?_⟩,λq' r hne h=>?_,rfl,.setCells _ _ _ _⟩;refine yK oO (λzs hz=>(aZ.1 hz).elim (JY zs) (yL zs)) λp zs j z hp hj=>?_;have hjl:j<i.size:=by have h1:=(aJ.1 hj).1;have h2:zs∈xs++ys:=bU hp;rw[(aZ.1 h2).elim (JY zs) (yL zs)]at h1;exact h1
 rw[wM]at hp;by_cases XV:p<xs.length;rw[ag XV]at hp;obtain⟨_,_,hv,-,hne⟩:=hx.mq;obtain⟨b2,off2,bM,cell,rfl,g1,g2⟩:=hne (λe=>by simp_all);injection hv with e1 e2 e3;have e1:=au e1;injection e1 with q1 q2;subst q1;subst q2;obtain rfl:bM=i.size:=(g1 p _ hp).symm.trans (JY _ (bU hp));obtain⟨k1,k2,k3,k4⟩:=g2 _ _ _ _ hp hj;rw[fH]at k2 k3;exact⟨_,k1,f3 _ _ _ k3 k2,.inl k3,k4.keep (λ_ _ h=>.inl h) f3 ((fV.setCells b _ _ _).pY _)⟩;rw[af XV]at hp;obtain⟨u,k1,k2,k3⟩:=hn.at_ _ _ _ _ hp hj;have XW:(p-xs.length)*i.size+j<news.length:=(aJ.1 k1).1;have YG:off+(p*i.size+j)=off+xs.length*i.size+((p-xs.length)*i.size+j):=by
  have :p=xs.length+(p-xs.length):=oO
  have h2:p*i.size=xs.length*i.size+(p-xs.length)*i.size:=by rw[<-bw,<-this]
  omega
 have hin:=World.cell?_setCells_in b news (off+xs.length*i.size) w (λq MF=>by obtain⟨⟨u,hu⟩,-,-⟩:=t3 (off+xs.length*i.size+q) oO oO;simp_all) _ XW;refine⟨u,k3,?_,.inr ⟨rfl,oO,oO⟩,k2.keep (λ_ _ h=>.inl h) f3 ((fV.setCells b _ _ _).pY _)⟩;simp_all;simp only[if_true];rw[hn.len,hlen,bw,fH];simp_all;obtain⟨olds,KP,-,YH⟩:=wH (P:=E.C.P) hx JY;obtain⟨rest,z,hz,qF,hrun⟩:=iM (P:=E.C.P) (w:=w) (ty:=ty) (base:=ad) (news:=news) (olds:=olds) ht hu hd hi hl hf YH hc hb hb0;have hcap:xs.length+ys.length<=grownCap w (xs.length+ys.length) c elem:=grownCap_ge w _ _ _;generalize hcg:grownCap w (xs.length+ys.length) c elem=cap at*;generalize hW:w.drew.alloc (.cells (olds.toArray++news.toArray++rest) elem)=W at*;have Gn:Below w.drew.heap.size w.drew W:=by rw[<-hW];exact(Below.refl _ _).alloc (aA _) _
 have hWs:W.heap.size=w.heap.size+1:=by rw[<-hW];simp
 have hrl:rest.size=(cap-(xs.length+ys.length))*i.size:=by rw[qF,size_zeroCells,hz]
 have hcell:∀q,W.cell? ⟨w.heap.size,q,none⟩=(olds.toArray++news.toArray++rest)[q]?:=λq=>by rw[<-hW];exact World.cell?_alloc_new w.drew _ elem q
 have hfz:∀q,W.frozen? ⟨w.heap.size,q,none⟩=false:=λq=>by rw[<-hW];exact World.frozen?_alloc_new w.drew _ elem q
 have hold:∀b q,b<w.heap.size->W.cell? ⟨b,q,none⟩=w.cell? ⟨b,q,none⟩:=λb q hlt=>by rw[<-hW];exact World.cell?_alloc_lt w.drew _ ⟨b,q,none⟩ hlt
 have h1:=(hs.drew.OE (w':=W) Gn (λb q=>b=w.heap.size/\q<(xs.length+ys.length)*i.size)).Pk q hq;have hg:=h1.Aa (t:=.inr q) (B:=w.heap.size) (s:=(xs.length+ys.length)*i.size) (e:=cap*i.size) (T:=elem) (by simp) oO hs.kept.size (by rw[<-hW];exact⟨_,_,World.alloc_heap_new w.drew _,rfl⟩) (λo h=>by have :=(hs.gG o _ h).1;omega) (λt' r h=>by simp only at h;split at h;grind;have :=(hs.fQ t' _ r.1 r.2.1 r.2.2 h).1;omega) (λo h=>by have :=(hs.iX.row o _ h).2.1;omega) (λq hq MF=>by
  refine⟨?_,hfz q,?_⟩;rw[hcell q];have :q<(olds.toArray++news.toArray++rest).size:=by simp only[Array.size_append,List.size_toArray,KP.len,hn.len,hrl,<-bw];rw[show xs.length+ys.length+(cap-(xs.length+ys.length))=cap from oO];exact MF
  simp_all;rintro(h|⟨-,-,-,h⟩);have :=hs.fh _ _ h;omega;omega);have ML:fV w W:=λk o hk ho=>by rw[Gn.block k (bq.1 hk).1];exact hk
 refine⟨_,cap,W,_,by simp_all,hg,?_,.inr ⟨w.heap.size,0,⟨rfl,rfl⟩,by simp_all⟩,λq' r hne h=>?_,rfl,ML⟩;have hkeep:∀{u:Value}{z:AV},dA G.bk w u z->dA (λb o=>G.bk b o\/(w.drew.heap.size<=b/\b<W.heap.size/\b=w.heap.size/\o<(xs.length+ys.length)*i.size)) W u z:=λh=>h.keep (λ_ _ h=>.inl h) (λb o c hi hc=>by rw[hold b o (hs.fh b o hi)];omega) (λb es n hi hb=>(Gn.block b (hs.fh b 0 hi)).trans hb);refine yK oO (λzs hz=>(aZ.1 hz).elim (JY zs) (yL zs)) λp zs j z hp hj=>?_;have hjl:j<i.size:=by have h1:=(aJ.1 hj).1;have h2:zs∈xs++ys:=bU hp;rw[(aZ.1 h2).elim (JY zs) (yL zs)]at h1;exact h1
 have XV:p<xs.length+ys.length:=by rw[<-hlen];exact(aJ.1 hp).1
 have afP:p*i.size+j<(xs.length+ys.length)*i.size:=by have :(p+1)*i.size<=(xs.length+ys.length)*i.size:=ew _ XV;rw[bw]at this;omega
 rw[de];have Bi:(λb o=>G.bk b o\/(w.drew.heap.size<=b/\b<W.heap.size/\b=w.heap.size/\o<(xs.length+ys.length)*i.size)) w.heap.size (p*i.size+j):=.inr ⟨aA _,oO,rfl,afP⟩;rw[wM]at hp;by_cases YI:p<xs.length;rw[ag YI]at hp;obtain⟨u,k1,k2,k3⟩:=KP.at_ _ _ _ _ hp hj;have XW:=(aJ.1 k1).1;refine⟨u,k3,?_,Bi,hkeep k2⟩;grind;rw[af YI]at hp;obtain⟨u,k1,k2,k3⟩:=hn.at_ _ _ _ _ hp hj;have XW:=(aJ.1 k1).1;have YG:p*i.size+j=olds.length+((p-xs.length)*i.size+j):=by
  have :p=xs.length+(p-xs.length):=oO
  have h2:p*i.size=xs.length*i.size+(p-xs.length)*i.size:=by rw[<-bw,<-this]
  rw[KP.len];omega
 refine⟨u,k3,?_,Bi,hkeep k2⟩;rw[hcell,sI (by simp_all),MG (by simp_all),YG];simp[k1];simp_all
theorem Ft {b:Nat}{o:Obj}(h:w.heap[b]?=some o):w.putObj b o=w:=by
 obtain⟨hl,he⟩:=bq.1 h;unfold World.putObj;have :w.heap.setIfInBounds b o=w.heap:=by apply Array.ext_getElem?;intro i;rw[MM];split;simp_all;rfl
 rw[this]
theorem VQ {P:Program}{t kT eT:TypeId}(hu:P.underlying t=some (.map kT eT)){L:List gJ}(hL:eZ P 40 kT=some L){k:AV}(hk:gL (gU P kT) L k=true){b gu:Nat}{es:List MapEntry}(hb:w.heap[b]?=some (.map es.toArray gu)){ks:List AV}(hks:sF (gU P kT) L es ks){z:Value}(hz:∀w,(zeroValue eT).run P w=.ok z w):match iy k ks with|some j=>∃e0,es[j]?=some e0/\e0.key=tv (gU P kT) k.cells/\(Instr.mapEntry t (.map (some b)) (tv (gU P kT) k.cells)).run P w=.ok (.tuple #[e0.val,.int .i64 (e0.born:Int)]) w|none=>(Instr.mapEntry t (.map (some b)) (tv (gU P kT) k.cells)).run P w=.ok (.tuple #[z,.int .i64 (gu:Int)]) (w.putObj b (.map (es++[({key:=tv (gU P kT) k.cells,val:=z,born:=gu}:MapEntry)]).toArray (gu+1))):=by
 have MD:=(sE (P:=P) (em:=false) 40).1 kT L 10000 w k.cells dD hL (lZ hk);have hfind:=wq (w:=w) dD hL hk hks;have hg:(Go.getObj b).run P w=.ok (.map es.toArray gu) w:=by simp[Go.getObj,Sem.run,hb]
 have Bk:∀o',(Go.setObj b o').run P w=.ok () (w.putObj b o'):=λo'=>by simp[Go.setObj,Sem.run,hb,World.putObj]
 cases fF:iy k ks with
 |none=>
  rw[fF]at hfind;have he:(es++[({key:=tv (gU P kT) k.cells,val:=z,born:=gu}:MapEntry)]).toArray=es.toArray.push {key:=tv (gU P kT) k.cells,val:=z,born:=gu}:=by simp
  simp only;rw[he];simp[Instr.mapEntry,run_underlying hu,hg,MD,hfind,found,hz,Bk,goInt]
 |some j=>
  rw[fF]at hfind;obtain⟨hj,hkj⟩:=uF fF;have XU:j<es.length:=by have :=hks.1;omega
  obtain⟨k1,k2⟩:=hks.2 j _ _ (av XU) (av hj);rw[hkj]at k1;have hmod:(es.modify j λe=>{e with key:=tv (gU P kT) k.cells})=es:=by apply fZ;intro i;rw[List.getElem?_modify];split;rename_i e;subst e;simp only[av XU,eM,bN];rw[<-k1];rfl;simp
  refine⟨es[j],av XU,k1,?_⟩;have hps:=Ft hb;simp[Instr.mapEntry,run_underlying hu,hg,MD,hfind,found,XU,k1,Cw hk,Bk,goInt,hmod,hps]
theorem run_store {P:Program}{t:TypeId}{b gu:Nat}{es:List MapEntry}(hb:w.heap[b]?=some (.map es.toArray gu))(MN:(es.map (·.born)).Nodup){j:Nat}{e0:MapEntry}(hj:es[j]?=some e0)(v:Value):(Instr.entryStore t (.map (some b)) (.int .i64 (e0.born:Int)) v).run P w=.ok () (w.putObj b (.map (es.set j {e0 with val:=v}).toArray gu)):=by
 have hg:(Go.getObj b).run P w=.ok (.map es.toArray gu) w:=by simp[Go.getObj,Sem.run,hb]
 have Bk:∀o',(Go.setObj b o').run P w=.ok () (w.putObj b o'):=λo'=>by simp[Go.setObj,Sem.run,hb,World.putObj]
 have hidx:es.findIdx? (λe=>((e.born:Nat):Int)==((e0.born:Nat):Int))=some j:=WideElems.findIdx_born (l:=es) MN hj;have hmod:(es.modify j λe=>{e with val:=v})=es.set j {e0 with val:=v}:=by apply fZ;intro i;rw[List.getElem?_modify,List.getElem?_set];split;grind;simp
 simp[Instr.entryStore,hg,asInt,asIntOf,hidx,Bk,hmod]
end
theorem oJ {i:Nat}:∀{l:List Nat},gM i l=true↔i∈l
 |[]=>by simp[gM]
 |d::l=>by unfold gM;split;rename_i h;rw[aM h];simp;rename_i h;have :=bD h;rw[oJ,aK];exact⟨.inr,λg=>g.elim (λe=>absurd e this) id⟩
section
variable {G:bf}{bk:Nat->Nat->Prop}{loc mp:Nat->Option Nat}{w:World}{ρ:List (Nat×Nat)}{N:List Nat}{m:Nat}
theorem oZ:∀{xs:List FV}(i:Nat),(FV.Hp ρ xs)[i]?=xs[i]?.map (FV.nm ρ)
 |[],i=>by simp[FV.Hp]
 |x::xs,0=>by simp[FV.Hp]
 |x::xs,i+1=>by simp[FV.Hp,oZ (xs:=xs) i]
theorem qc:∀xs:List FV,(FV.Hp ρ xs).length=xs.length|[]=>rfl|x::xs=>by simp[FV.Hp,qc xs]
theorem pM:∀{xs:List FV},FV.ym N m xs=true->∀{i:Nat}{x:FV},xs[i]?=some x->x.only N m=true
 |[],_,i,x,h=>by simp at h
 |y::xs,h,i,x,hx=>by
  simp only[FV.ym]at h;split at h;rename_i hy;cases i with
  |zero=>simp at hx;exact hx▸hy
  |succ i=>exact pM h (by simpa using hx)
  cases h
theorem Es:∀{l:List (AV×FV)},KG N m l=true->∀{i:Nat}{p:AV×FV},l[i]?=some p->p.2.only N m=true
 |[],_,i,x,h=>by simp at h
 |(k,y)::l,h,i,x,hx=>by
  simp only[KG]at h;split at h;rename_i hy;cases i with
  |zero=>simp at hx;exact hx▸hy
  |succ i=>exact Es h (by simpa using hx)
  cases h
theorem aT.fwd {G':bf}{v:Value}{x:FV}(h:aT (ux bk loc mp) w v x)(hi:G'.bk=bk)(hl:∀o b,loc o=some b->G'.loc (GB ρ o)=some b)(hm:∀o b,mp o=some b->G'.mp (GB ρ o)=some b):aT G' w v (x.nm ρ):=by
 induction h with
 |p v x h=>exact .p v x (hi▸h)
 |agg cs xs hn _ ih=>
  refine .agg cs (FV.Hp ρ xs) (by rw[qc];exact hn) λi c x h1 h2=>?_;rw[oZ]at h2;cases hx:xs[i]?with
  |none=>simp[hx]at h2
  |some y=>simp[hx]at h2;subst h2;exact ih i c y h1 hx
 |eW cs xs hn _ ih=>
  refine .eW cs (FV.Hp ρ xs) (by rw[qc];exact hn) λi c x h1 h2=>?_;rw[oZ]at h2;cases hx:xs[i]?with
  |none=>simp[hx]at h2
  |some y=>simp[hx]at h2;subst h2;exact ih i c y h1 hx
 |ptr o off b h=>exact .ptr _ off b (hl o b h)
 |fM t T bM xs a c h1 h2=>refine .fM t T bM xs a c (hi▸h1) (h2.imp id λ⟨b,off,e1,e2,e3⟩=>?_);cases e3
 |full xs a h=>exact .full xs a (hi▸h)
 |fn f fs cs first captured hn hn' _ _ ih Gj=>
  refine .fn f fs cs (FV.Hp ρ first) (FV.Hp ρ captured) (by rw[qc];exact hn) (by rw[qc];exact hn') (λi c x h1 h2=>?_) λi c x h1 h2=>?_;rw[oZ]at h2;cases hx:first[i]?with
  |none=>simp[hx]at h2
  |some y=>simp[hx]at h2;subst h2;exact ih i c y h1 hx
  rw[oZ]at h2;cases hx:captured[i]?with
  |none=>simp[hx]at h2
  |some y=>simp[hx]at h2;subst h2;exact Gj i c y h1 hx
 |lX l k h=>cases h
 |gd o T bM n c b h1 h2 h3 h4=>cases h2
 |uk o base T bM n c b off h1 h2 h3 h4=>cases h2
 |gD o base off b h=>exact .gD _ base off b (hl o b h)
 |fG o b h=>exact .fG _ b (hm o b h)
 |zR q r h=>cases h
 |dR v=>exact .dR v
theorem aT.back (hi:∀b o,G.bk b o->bk b o)(hl:∀o b,gM o N=true->G.loc (GB ρ o)=some b->loc o=some b)(hm:∀b,G.mp (GB ρ m)=some b->mp m=some b){v:Value}{y:FV}(h:aT G w v y):∀x:FV,x.only N m=true->y=x.nm ρ->aT (ux bk loc mp) w v x:=by
 have hr:∀{v:Value}{x:AV},dA G.bk w v x->dA bk w v x:=λh=>h.keep hi (λ_ _ _ _ h=>h) (.refl _ _);induction h with
 |p v x h=>intro z hz e;cases z<;>simp only[FV.nm,reduceCtorEq,FV.p.injEq]at e;subst e;exact .p v _ (hr h)
 |agg cs xs hn _ ih=>intro z hz e;cases z<;>simp only[FV.nm,reduceCtorEq,FV.agg.injEq]at e;rename_i zs;subst e;refine .agg cs zs (by rw[qc]at hn;exact hn) λi c x h1 h2=>?_;exact ih i c (x.nm ρ) h1 (by rw[oZ,h2];rfl) x (pM hz h2) rfl
 |eW cs xs hn _ ih=>intro z hz e;cases z<;>simp only[FV.nm,reduceCtorEq,FV.eW.injEq]at e;rename_i zs;subst e;refine .eW cs zs (by rw[qc]at hn;exact hn) λi c x h1 h2=>?_;exact ih i c (x.nm ρ) h1 (by rw[oZ,h2];rfl) x (pM hz h2) rfl
 |ptr o off b h=>intro z hz e;cases z<;>simp only[FV.nm,reduceCtorEq,FV.ptr.injEq]at e;obtain⟨rfl,rfl⟩:=e;exact .ptr _ _ b (hl _ b hz h)
 |fM t T bM xs a c h1 h2=>intro z hz e;cases z<;>simp only[FV.nm,reduceCtorEq]at e;cases hz
 |full xs a h=>intro z hz e;cases z<;>simp only[FV.nm,reduceCtorEq,FV.full.injEq]at e;subst e;exact .full _ a (hr h)
 |fn f fs cs first captured hn hn' _ _ ih Gj=>intro z hz e;cases z<;>simp only[FV.nm,reduceCtorEq,FV.fn.injEq]at e;rename_i g zs zs';obtain⟨rfl,rfl,rfl⟩:=e;simp only[FV.only]at hz;split at hz;rename_i h1;refine .fn f fs cs zs zs' (by rw[qc]at hn;exact hn) (by rw[qc]at hn';exact hn') (λi c x h2 h3=>?_) λi c x h2 h3=>?_;exact ih i c (x.nm ρ) h2 (by rw[oZ,h3];rfl) x (pM h1 h3) rfl;exact Gj i c (x.nm ρ) h2 (by rw[oZ,h3];rfl) x (pM hz h3) rfl;cases hz
 |fG o b h=>intro z hz e;cases z<;>simp only[FV.nm,reduceCtorEq,FV.fG.injEq]at e;subst e;obtain rfl:=aM hz;exact .fG _ b (hm b h)
 |dR v=>intro z hz e;cases z<;>simp only[FV.nm,reduceCtorEq]at e;exact .dR v
 |_=>intro z hz e;cases z<;>simp only[FV.nm,reduceCtorEq]at e;cases hz
end
section
variable {E:Env}{G:bf}{S:aj}{a:Act}{w:World}{o:Oper}
theorem bt.ahG (hs:bt E G S a w){w':World}(D:Nat->Prop)(hD:∀k,D k->∃o cells,G.loc o=some k/\Qv.getObj S.aI o=some cells/\(∃cs T fr,w.heap[k]?=some (.cells cs T fr))/\(∀cs T fr,w.heap[k]?=some (.cells cs T fr)->∃cs',w'.heap[k]?=some (.cells cs' T fr)/\cs'.size=cs.size)/\∀(i:Nat)(x:FV),cells[i]?=some x->∃c,w'.cell? ⟨k,i,none⟩=some c/\aT {G with bk:=λb o=>G.bk b o\/(w.heap.size<=b/\b<w'.heap.size)} w' c x)(hos:w'.os=w.os)(OY:w'.tape=w.tape)(hout:w'.output=w.output)(hsz:w.heap.size<=w'.heap.size)(hblk:∀k,k<w.heap.size->¬D k->w'.heap[k]?=w.heap[k]?):bt E {G with bk:=λb o=>G.bk b o\/(w.heap.size<=b/\b<w'.heap.size)} S a w':=by
 have Bi:∀k i,G.bk k i->¬D k:=λk i h d=>by obtain⟨o,cells,h1,-⟩:=hD k d;exact((hs.gG o k h1).2.2 i).1 h
 have hcell:∀k i,k<w.heap.size->¬D k->w'.cell? ⟨k,i,none⟩=w.cell? ⟨k,i,none⟩:=λk i h1 h2=>by unfold World.cell?;simp only[hblk k h1 h2]
 have Fo:∀k i,k<w.heap.size->w'.frozen? ⟨k,i,none⟩=w.frozen? ⟨k,i,none⟩:=λk i h1=>by by_cases h2:D k;obtain⟨o,cells,-,-,⟨cs,T,fr,hb⟩,h3,-⟩:=hD k h2;obtain⟨cs',hb',-⟩:=h3 cs T fr hb;simp[World.frozen?,hb,hb'];unfold World.frozen?;simp only[hblk k h1 h2]
 have others:fV w w':=λk o hk ho=>by rw[hblk k (bq.1 hk).1 (λd=>by obtain⟨o',cells,-,-,⟨cs,T,fr,hb⟩,-⟩:=hD k d;rw[hb]at hk;obtain rfl:=au hk;simp[Obj.isCells]at ho)];exact hk
 have keep:∀v x,aT G w v x->aT {G with bk:=λb o=>G.bk b o\/(w.heap.size<=b/\b<w'.heap.size)} w' v x:=λv x hv=>hv.keep (λb o hi=>.inl hi) (λk o c hi hc=>by rw[hcell k o (hs.fh k o hi) (Bi k o hi)];exact hc) (others.pY _) (λ_ _ e=>e) (λ_ _ e=>e);have KR:∀o r,G.row o=some r->¬D r:=λo r h d=>by obtain⟨o',cells,h1,-⟩:=hD r d;exact(hs.iX.row o r h).2.2.2.1 o' h1
 refine⟨⟨hos.trans hs.kept.os,OY.trans hs.kept.tape,hout.trans hs.kept.output,ck hs.kept.size hsz,λk hk hk'=>?_,λk c1 T1 f1 hk q=>?_⟩,hs.size,hs.ext'.keep rfl rfl rfl keep others (HB:=.more rfl rfl rfl rfl (λb i hi=>hi.imp id λhi=>hi.1) (λb hi=>.inl hi) λ_ _ h=>.inl h),?_,?_,?_,λi hi=>keep _ _ (hs.tmps i hi),λo cs2 ho=>?_,λo b2 ho=>?_,hs.eY,λo t b2 r q1 q2=>hs.cz o t b2 r q1 q2,λt b2 s e T2 h=>?_,hs.er⟩;rw[hblk k (dW hk hs.kept.size) (λd=>by obtain⟨o,cells,h1,-⟩:=hD k d;exact E.Mv (hs.gG o k h1).2.1 hk hk' rfl)];exact hs.kept.block k hk hk';obtain⟨c2,q1,q2⟩:=hs.kept.shape k c1 T1 f1 hk q;by_cases hkb:D k;obtain⟨o,cells,-,-,-,h3,-⟩:=hD k hkb;obtain⟨c3,q3,q4⟩:=h3 c2 T1 f1 q1;exact⟨c3,q3,q4.trans q2⟩;exact⟨c2,by rw[hblk k (bq.1 q1).1 hkb];exact q1,q2⟩;refine hs.iX.keep rfl rfl (λo bs q=>⟨q,rfl,rfl⟩) (λo bs _ q=>q) (λ_ _ e=>e) hsz (λo bs b2 q q2 e=>hblk b2 (hs.gG o b2 e).1 (λd=>?_)) (λo r e=>hblk r (hs.iX.row o r e).2.1 (KR o r e)) (λo r i e hi=>hi.elim id λhi=>absurd (hs.iX.row o r e).2.1 oO) (λ_ _ _ _ e=>e) (λ_ _ t q _ e=>⟨t,q,e⟩);obtain⟨o',cells,h1,h2,-⟩:=hD b2 d;have :=hs.eY o o' b2 e h1;subst this;rw[q2]at h2;cases h2;rintro k o (hi|⟨hi,_⟩);exact hs.nN k o hi;exact .inr (ck hs.kept.size hi);rintro k o (hi|⟨_,hi⟩);exact dW (hs.fh k o hi) hsz;exact hi;obtain⟨b2,h2,h3⟩:=hs.aI o cs2 ho;by_cases hd:D b2;obtain⟨o',cells,h4,h5,-,-,h6⟩:=hD b2 hd;have :=hs.eY o o' b2 h2 h4;subst this;rw[ho]at h5;obtain rfl:=au h5;exact⟨b2,h2,h6⟩;exact⟨b2,h2,λi y hy=>let⟨c,h4,h5⟩:=h3 i y hy;⟨c,by rw[hcell b2 i (hs.gG o b2 h2).1 hd];exact h4,keep _ _ h5⟩⟩;obtain⟨k1,k2,k3⟩:=hs.gG o b2 ho;refine⟨dW k1 hsz,k2,λi=>⟨?_,by rw[Fo b2 i k1];exact(k3 i).2⟩⟩;rintro(hi|⟨hi,_⟩);exact(k3 i).1 hi;omega;obtain⟨k1,k2,⟨c1,f1,kt,ku⟩,k3⟩:=hs.fQ t b2 s e T2 h;have him:∀i,¬(G.bk b2 i)->¬(G.bk b2 i\/(w.heap.size<=b2/\b2<w'.heap.size)):=λi q r=>r.elim q λr=>oO
 by_cases hd:D b2;obtain⟨o',cells,-,-,-,h3,-⟩:=hD b2 hd;obtain⟨cs',hb',afV⟩:=h3 c1 T2 f1 kt;refine⟨dW k1 hsz,k2,⟨_,_,hb',ku⟩,λi hi hi'=>?_⟩;obtain⟨⟨c,k4⟩,k5,k6⟩:=k3 i hi hi';refine⟨?_,by rw[Fo b2 i k1];exact k5,him i k6⟩;have hlt:i<c1.size:=by simp only[World.cell?,kt]at k4;exact(bq.1 (by simpa using k4)).1
 exact⟨cs'[i]' oO,by simp[World.cell?,hb',afV▸hlt]⟩;refine⟨dW k1 hsz,k2,⟨c1,f1,by rw[hblk b2 k1 hd];exact kt,ku⟩,λi hi hi'=>?_⟩;obtain⟨⟨c,k4⟩,k5,k6⟩:=k3 i hi hi';exact⟨⟨c,by rw[hcell b2 i k1 hd];exact k4⟩,by rw[Fo b2 i k1];exact k5,him i k6⟩
theorem Ac {o:Nat}:∀{aI:List (Nat×List FV)},o∈jf aI↔∃cells,Qv.getObj aI o=some cells
 |[]=>by simp[jf,Qv.getObj]
 |(u,c)::r=>by simp only[jf,aK,Qv.getObj];split;rename_i h;rw[aM h];simp;rename_i h;have :=bD h;rw[Ac];exact⟨λg=>g.elim (λe=>absurd e.symm this) id,.inr⟩
theorem Et {n:Nat}:∀{l:List Nat},Hq n l=true↔n∉l
 |[]=>by simp[Hq]
 |d::l=>by unfold Hq;split;rename_i h;rw[aM h];simp;rename_i h;have :=bD h;rw[Et,aK,not_or];exact⟨λg=>⟨this,g⟩,λg=>g.2⟩
theorem Bp {ρ:List (Nat×Nat)}{o:Nat}:∀{aI:List (Nat×List FV)},o∈jf aI->GB ρ o∈Hr ρ aI|(u,c)::r,h=>by rcases aK.1 h with rfl|h;exact .head _;exact .tail _ (Bp h)
theorem KS {ρ:List (Nat×Nat)}:∀{aI:List (Nat×List FV)},Mo (Hr ρ aI)=true->∀{o o':Nat},o∈jf aI->o'∈jf aI->GB ρ o=GB ρ o'->o=o'|(u,c)::r,h,o,o',h1,h2,e=>by simp only[Hr,Mo]at h;split at h;rename_i hn;have hn:=Et.1 hn;rcases aK.1 h1 with rfl|g1;rcases aK.1 h2 with rfl|h2;rfl;exact absurd (e▸Bp h2) hn;rcases aK.1 h2 with rfl|h2;exact absurd (e▸Bp g1) hn;exact KS h g1 h2 e;cases h
theorem sJ {N:List Nat}{m:Nat}:∀{aI:List (Nat×List FV)},vp N m aI=true->∀{o:Nat}{cells:List FV},Qv.getObj aI o=some cells->iw o=true/\FV.ym N m cells=true/\cells≠[]
 |(u,[])::r,h,_,_,_=>by cases h
 |(u,c::cs)::r,h,o,cells,hc=>by unfold vp at h;split at h;rename_i h1 h2;simp only[Qv.getObj]at hc;split at hc;rename_i hb;obtain rfl:=aM hb;obtain rfl:=au hc;exact⟨h1,h2,λe=>by cases e⟩;exact sJ h hc;cases h
theorem yO {ρ:List (Nat×Nat)}:∀{aI:List (Nat×List FV)},Mp S ρ aI->∀{o:Nat}{cells:List FV},Qv.getObj aI o=some cells->Qv.getObj S.aI (GB ρ o)=some (FV.Hp ρ cells)|(u,c)::r,h,o,cells,hc=>by simp only[Qv.getObj]at hc;split at hc;rename_i hb;obtain rfl:=aM hb;obtain rfl:=au hc;exact h.1;exact yO h.2 hc
theorem Sd {b:Nat}{o o':Obj}:(w.putObj b o).putObj b o'=w.putObj b o':=by unfold World.putObj;simp
end
section
variable {E:Env}{G:bf}{S:aj}{a:Act}{w:World}{o:Oper}
theorem jB (G:bf)(w:World):aT G w undef (.p (.eW [])):=.p _ _ (dA.eW (bk:=G.bk) (w:=w) [] [] rfl (λi c x h _=>by cases i<;>cases h))
theorem tE (hs:bt E G S a w){dst:Option Nat}{r:dx}{v:Value}{w':World}(hb:Below w.heap.size w w')(hok:oy G.bk w.heap.size w' v r)(hgo:aeV S dst r:=by trivial):∃G',bt E G' (S.got dst r) (a.put dst v) w':=by
 cases r with
 |own rest T bM xss=>
  cases dst with
  |none=>exact⟨_,hs.ext hb⟩
  |some d0=>
   have hdn:=hgo d0 rfl;simp only[aj.got];generalize hd:S.off+d0=d at hdn;obtain⟨b,c,cs,fr,us,rfl,h1,h2,h3,h4,h5,h6,h7,h8,h9,h10⟩:=hok;have hg0:=(hs.OE hb λb' _=>b'≠b).kill d;have hkeep:∀{u:Value}{y:AV},dA (Yc G.bk w.heap.size b) w' u y->dA (λb' o=>G.bk b' o\/(w.heap.size<=b'/\b'<w'.heap.size/\b'≠b)) w' u y:=λh=>h.uu (λb' o c hi hc=>⟨hi.imp id λh=>⟨h.1,World.block_lt_of_cell? w' _ hc,h.2⟩,hc⟩) λb' es k hi hb'=>⟨hi.imp id λh=>⟨h.1,(bq.1 hb').1,h.2⟩,hb'⟩;have hfl:xss.flatten.length=xss.length*bM:=fR λzs hz=>(h5 zs hz).1;have hg1:=hg0.afQ (d:=d) (b:=b) (cells:=aG xss.flatten) hdn (by simp[bf.free]) (kS _ _) (λo h=>by simp only[bf.free]at h;split at h;cases h;have :=(hs.gG o _ h).1;omega) (λt' r h=>by simp only[bf.free]at h;split at h;cases h;have :=(hs.fQ t' _ r.1 r.2.1 r.2.2 h).1;omega) (λo h=>by simp only[bf.free]at h;split at h;cases h;have :=(hs.iX.row o _ h).2.1;omega) (λes k e=>by rw[h6]at e;cases e) h2 (ck hs.kept.size h1) (λi=>⟨λh=>by rcases h with h|⟨-,-,h⟩;have :=hs.fh _ _ h;omega;exact h rfl,h7 i⟩) (λi x hx=>by
    rw[vw]at hx;cases hq:xss.flatten[i]?with
    |none=>rw[hq]at hx;cases hx
    |some y=>rw[hq]at hx;obtain rfl:=au hx;obtain⟨u,q1,q2⟩:=h9 i y hq;exact⟨u,q1,.p _ _ (hkeep q2)⟩)
   have hg2:=hg1.yJ (t:=d) (B:=b) (s:=xss.length*bM) (e:=c*bM) (T:=T) (vu _ d) h2 (ck hs.kept.size h1) ⟨cs,fr,h6,trivial⟩ (λo h=>by simp only[bf.free]at h;split at h;rename_i e;subst e;refine⟨rfl,kS _ _,λcells hc=>?_⟩;simp only[Qv.getObj,ji]at hc;obtain rfl:=au hc;rw[iR,hfl];have :=(hs.gG o _ h).1;omega) (λt' r h=>by simp only[bf.free]at h;split at h;cases h;have :=(hs.fQ t' _ r.1 r.2.1 r.2.2 h).1;omega) (λo h=>by simp only[bf.free]at h;split at h;cases h;have :=(hs.iX.row o _ h).2.1;omega) (λi hi hi'=>⟨h8 i hi',h7 i,λh=>by rcases h with h|⟨-,-,h⟩;have :=hs.fh _ _ h;omega;exact h rfl⟩);refine⟨_,hg2.put (some d0) (x:=acw rest (.gd d T bM)) ?_⟩;have RX:aT {(bf.free {G with bk:=λb' o=>G.bk b' o\/(w.heap.size<=b'/\b'<w'.heap.size/\b'≠b)} d)with loc:=λo=>if o=d then some b else(bf.free {G with bk:=λb' o=>G.bk b' o\/(w.heap.size<=b'/\b'<w'.heap.size/\b'≠b)} d).loc o,tail:=λt'=>if t'=d then some (b,xss.length*bM,c*bM,T)else(bf.free {G with bk:=λb' o=>G.bk b' o\/(w.heap.size<=b'/\b'<w'.heap.size/\b'≠b)} d).tail t'} w' (.slice (some ⟨b,0,none⟩) xss.length c) (.gd d T bM):=.gd d T bM xss.length c b (by simp) (by simp) h4 h3;cases rest with
   |none=>exact RX
   |some r=>
    obtain⟨g1,g2⟩:=h10 r rfl;refine .eW (_::us) (_::aG r) (by simp[iR,g1]) λi u x q1 q2=>?_;cases i with
    |zero=>simp at q1 q2;subst q1;subst q2;exact RX
    |succ i=>
     simp only[nT]at q1 q2;rw[vw]at q2;cases hq:r[i]?with
     |none=>rw[hq]at q2;cases q2
     |some y=>rw[hq]at q2;obtain rfl:=au q2;exact .p _ _ (hkeep (g2 i u y q1 hq))
 |val x=>exact⟨_,(hs.ext hb).put dst (oy.RW (r:=.val x) hok)⟩
 |vf x=>exact⟨_,(hs.ext hb).put dst (oy.RW (r:=.vf x) hok)⟩
 |fresh T bM xs=>
  cases dst with
  |none=>exact⟨_,hs.ext hb⟩
  |some d0=>simp only[aj.got];generalize hd:S.off+d0=d;obtain⟨ad,c,rfl,⟨rfl,rfl,h⟩|⟨b,off,cs,fr,rfl,h1,h2,h3,hty,h4,h5⟩⟩:=hok;have hr:dA (λb o=>G.bk b o\/(w.heap.size<=b/\b<w'.heap.size)) w' (.slice ad ([]:List (List AV)).length 0) (.sl []):=h.uu (λb o c hi hc=>⟨hi.imp id λh=>⟨h,World.block_lt_of_cell? w' _ hc⟩,hc⟩) λb es k hi hb=>⟨hi.imp id λh=>⟨h,(bq.1 hb).1⟩,hb⟩;exact⟨_,((hs.ext hb).kill d).put (some d0) (x:=.fM d T bM []) (.fM d T bM [] ad 0 hr (.inl ⟨rfl,rfl⟩))⟩;have hg:=((hs.OE hb λb' o=>¬(b'=b/\off+xs.length*bM<=o/\o<off+c*bM)).kill d).Aa (t:=d) (B:=b) (s:=off+xs.length*bM) (e:=off+c*bM) (T:=T) (vu _ d) h2 (ck hs.kept.size h1) ⟨cs,fr,hty,trivial⟩ (λo h=>by simp only[bf.free]at h;split at h;cases h;have :=(hs.gG o _ h).1;omega) (λt' r h=>by simp only[bf.free]at h;split at h;cases h;have :=(hs.fQ t' _ r.1 r.2.1 r.2.2 h).1;omega) (λo h=>by simp only[bf.free]at h;split at h;cases h;have :=(hs.iX.row o _ h).2.1;omega) (λi hi hi'=>by obtain⟨g1,g2⟩:=h4 i hi hi';refine⟨g1,g2,?_⟩;rintro(h|⟨-,-,h⟩);have :=hs.fh _ _ h;omega;exact h ⟨rfl,hi,hi'⟩);refine⟨_,hg.put (some d0) (x:=.fM d T bM xs) (.fM d T bM xs _ c ?_ (.inr ⟨b,off,rfl,h3,by simp⟩))⟩;exact h5.uu (λb o c hi hc=>⟨hi.imp id λh=>⟨h.1,World.block_lt_of_cell? w' _ hc,h.2⟩,hc⟩) λb es k hi hb=>⟨hi.imp id λh=>⟨h.1,(bq.1 hb).1,h.2⟩,hb⟩
theorem wp_make (hs:bt E G S a w){t:TypeId}{len cap:Operand}{d0:Nat}{K:aj->Prop}(ho:o.op=.makeSlice t len cap)(VO:o.dst=some d0)(h:RL E.C S t d0 (S.val len) (S.val cap) K){next:Act->World->Prop}{Q:Exit->Act->World->Prop}(hn:∀S' a' w',K S'->nO E S' a' w'->next a' w'):Bl E o a w next Q:=by
 have hlv:=aT.val hs len;have hcv:=aT.val hs cap;generalize S.val len=vl at h hlv;generalize S.val cap=vc at h hcv;unfold RL at h;split at h;rename_i e _ ht;have hu:=(E.C.ok ht).slice;split at h;rename_i bytes sh z hj;have hok:=E.C.ok hj;split at h;rename_i k n k' n';obtain⟨m,rfl,rfl,hb,h63,h⟩:=h;rw[jH]at h;obtain⟨hdn,cs,rfl,h⟩:=h;have e1:=hlv.fo;have e2:=hcv.fo;obtain⟨inf,z',hi,hsz,hby,hz,Cf⟩:=hok.info';simp only at hsz hby Cf;have aj0:z'.cells=#[z]:=by apply iJ.1;rw[Cf]
 have hrun:=run_make (P:=E.C.P) w t e inf z' hu hi hz k k' (m:Int) (m:Int) oO oO (by grind) oO;rw[aj0,hsz,ko,sK]at hrun;have hmc:madeCells #[z] m=(List.replicate m z).toArray:=by apply iJ.1;apply fZ;intro i;simp only[madeCells,nU,aN,Array.toList_range,List.getElem?_replicate];by_cases hi:i<m;grind;simp_all
 rw[hmc]at hrun;generalize hd:S.off+d0=d at h hdn;obtain⟨G2,g1,g2,g3,g4,g5,g6,g7,g8⟩:=uD hs d hdn (List.replicate m z) (List.replicate m (FV.gv z)) e λi x hx=>by rw[List.getElem?_replicate]at hx;split at hx;rename_i hi;obtain rfl:=au hx;exact⟨z,by simp_all,uC _ _ _⟩;simp_all
 have hg:=g1.yJ (t:=d) (B:=w.heap.size) (s:=m*1) (e:=m*1) (T:=e) g4 (by simp) hs.kept.size (wN w _ e) (λo q=>by have :o=d:=ia λhne=>g6 o hne q;subst this;refine⟨rfl,kS _ _,λcells hc=>?_⟩;simp only[Qv.getObj,ji]at hc;obtain rfl:=au hc;rw[FV.fB,ah,List.length_replicate,sK]) (λt' r q=>g5 t' r q) (λo q=>g7 o q) (λi h1 h2=>oO);refine wp_value (v:=.slice (some ⟨w.heap.size,0,none⟩) m m) (w':=w.alloc (.cells (List.replicate m z).toArray e)) ?_ ?_;simp[execOp,ho,e1,e2,hrun];rw[VO];exact hn _ _ _ h ⟨_,hg.put (some d0) (x:=.gd d e 1) (.gd d e 1 m m w.heap.size g2 (by simp) (aA _) oO)⟩;simp_all;rename_i j _ hj;have hok:=E.C.ok hj;split at h;rename_i k n k' n';obtain⟨m,rfl,rfl,hb,h63,h⟩:=h;rw[lD]at h;have e1:=hlv.fo;have e2:=hcv.fo;obtain⟨inf,z',hi,hsz,hby,hz,Cf⟩:=hok.info';have hrun:=run_make (P:=E.C.P) w t e inf z' hu hi hz k k' 0 (m:Int) oO oO (by rw[hby,<-Int.natCast_mul];omega) oO;rw[ko,show(0:Int).toNat=0 from rfl]at hrun;have hsize:(madeCells z'.cells (m*inf.size)).size=m*j.size:=by rw[size_madeCells,hsz]
 generalize madeCells z'.cells (m*inf.size)=us at hrun hsize;obtain⟨G',hg⟩:=tE hs (dst:=o.dst) (r:=.fresh e j.size []) (v:=.slice (some ⟨w.heap.size,0,none⟩) 0 m) (w':=w.alloc (.cells us e)) ((Below.refl _ _).alloc (aA _) _) ⟨some ⟨w.heap.size,0,none⟩,m,rfl,.inr ⟨w.heap.size,0,us,(0,0),rfl,aA _,(bq.1 (World.alloc_heap_new w _)).1,(λys hy=>by cases hy),World.alloc_heap_new w _,λi hi hi'=>by
  refine⟨?_,World.frozen?_alloc_new w _ e i⟩;rw[World.cell?_alloc_new];have hl:i<us.size:=by rw[hsize];omega
  exact⟨_,sL hl⟩,.TZ _ _⟩⟩;refine wp_value (v:=.slice (some ⟨w.heap.size,0,none⟩) 0 m) (w':=w.alloc (.cells us e)) ?_ (hn _ _ _ ?_ ⟨G',hg⟩);simp[execOp,ho,e1,e2,hrun];rw[VO];exact h;exact h.elim;exact h.elim;simp_all
theorem wp_evAppend (hs:bt E G S a w){d:Nat}{K:aj->Prop}{x y:Operand}{t u:TypeId}(ho:o.op=.call ⟨.builtin .append,#[x,y],#[t,u]⟩)(hd:o.dst=some d)(h:tI E.C t u d S (S.val x) (S.val y) K){next:Act->World->Prop}{Q:Exit->Act->World->Prop}(hn:∀S' a' w',K S'->nO E S' a' w'->next a' w'):Bl E o a w next Q:=by
 have hx:=aT.val hs x;have hy:=aT.val hs y;generalize S.val x=vx at h hx;generalize S.val y=vy at h hy;unfold tI at h;split at h
 ·rename_i e _ ui ht hui;have JZ:=(E.C.ok ht).slice;obtain⟨dd,YL,hsh⟩:=(E.C.ok hui).yC;split at h;exact h.elim;rename_i yM;have hdk:∀k,dd≠.int k:=λk e=>by rw[<-hsh,e]at yM;simp[shapeOf,Shape.Fj]at yM
  split at h;exact h.elim;rename_i j hj;have hok:=E.C.ok hj;split at h;exact h.elim;rename_i ys hys;have fin:∀{k:Nat}{xs:List (List AV)}{ad:Option Addr}{c:Nat},a.eval x=.slice ad xs.length c->dA G.bk w (.slice ad xs.length c) (.sl xs)->(∀zs,zs∈xs->zs.length=j.size)->((xs=[]/\c=0)\/(ys≠[]/\c=xs.length)\/∃b off,ad=some ⟨b,off,none⟩/\G.tail k=some (b,off+xs.length*j.size,off+c*j.size,e))->(∀zs,zs∈ys->zs.length=j.size)->(xs.length+ys.length)*j.bytes<=2^47->j.bytes≠0->K ((S.kill k).put (some d) (.fM k e j.size (xs++ys)))->Bl E o a w next Q:=λ{k xs ad c} ev hr JY hroom yL hb hb0 hK=>by
   obtain⟨news,n1,n2,n3⟩:=hy.items (P:=E.C.P) (e:=j.size) hys yL;obtain⟨_,_,hv,hle,-⟩:=hr.mq;have afW:xs.length<=c:=by injection hv with e1 e2 e3;omega
   obtain⟨v',w',G',r1,r2,r3⟩:=Pb (ty:=o.type) hs JZ YL hdk hok hr JY yL afW hroom n1 n2 n3 hb hb0;refine wp_value (v:=v') (w':=w') ?_ (hn _ _ _ hK ⟨G',?_⟩);simp[execOp,ho,resolve,invoke,builtin,ev,r1];rw[hd];exact r2.put (some d) r3
  split at h;rename_i k T bM xs;split at h;rename_i he hb0 hT;obtain rfl:=aM he;obtain rfl:=aM hT;obtain⟨JY,yL,hb,zs,rfl,hK⟩:=h;generalize KQ:a.eval x=v at hx;cases hx with
  |fM _ _ _ _ ad c hr hroom=>exact fin KQ hr JY (hroom.imp id λ⟨b,off,e1,_,e2⟩=>.inr ⟨b,off,e1,e2⟩) yL hb (bD hb0) hK
  exact h.elim;rename_i k T bM;split at h;rename_i he hT hb0;obtain rfl:=aM he;obtain rfl:=aM hT;have hb0:=bD hb0;split at h;exact h.elim;rename_i xs hxs;obtain⟨hkn,hxs⟩:=iW hxs;obtain⟨n,VP,yL,hbd,zs,rfl,hK⟩:=h;obtain⟨news,n1,n2,n3⟩:=hy.items (P:=E.C.P) (e:=j.size) hys yL;generalize Pd:a.eval y=vy at hy n2 n3;generalize MI:a.eval x=vv at hx;cases hx with
  |gd _ _ _ n' c b p1 p2 p3 p4=>
   have nl:news.length=ys.length*j.size:=n1.len;have YM:(aG ys.flatten).length=ys.length*j.size:=by rw[iR];exact fR yL
   have nr:∀(i:Nat)(z:FV),(aG ys.flatten)[i]?=some z->∃u,news[i]?=some u/\aT G w u z:=λi z hz=>by
    rw[vw]at hz;have hi:i<ys.length*j.size:=by
     rw[<-fR yL];cases hq:ys.flatten[i]?with
     |none=>rw[hq]at hz;cases hz
     |some q=>exact(aJ.1 hq).1
    have hq:i/j.size<ys.length:=CP (by rw[wJ];exact hi);have hr:i%j.size<(ys[i/j.size]).length:=by rw[yL _ (aO hq)];exact jh _ p4
    have hii:i/j.size*j.size+i%j.size=i:=Nat.div_add_mod' i j.size;have h1:=av hq;have h2:=av hr;have h3:=nD yL h1 h2;rw[hii]at h3;rw[h3]at hz;obtain rfl:=au hz;obtain⟨u,e1,e2,-⟩:=n1.at_ _ _ _ _ h1 h2;rw[hii]at e1;exact⟨u,e1,.p _ _ e2⟩
   have hxl:=(hs.cz _ _ _ _ p1 p2).2.2 xs hxs;simp only at hxl;obtain rfl:n=n':=ga p4 (VP.symm.trans hxl);obtain⟨t1,t2,tt,t3⟩:=hs.fQ _ _ _ _ _ p2;by_cases hc:n+ys.length<=c;have hq:n*j.size+news.length<=c*j.size:=by have :=ew j.size hc;rw[bw]at this;omega
   have hrun:=nZ (P:=E.C.P) (w:=w) (ty:=o.type) (b:=b) (off:=0) JZ YL hdk hok n2 (n3 w λ_ _=>rfl) hc (λq MF=>by rw[de];obtain⟨⟨u,hu⟩,-,-⟩:=t3 (n*j.size+q) oO oO;rw[hu];rfl) (λq MF=>by rw[de];exact(t3 (n*j.size+q) oO oO).2.1) n1.one;rw[de]at hrun;have hg:=hs.Pc (news:=news) hxs p1 p2 hq nr oO;have hex:(execOp a.eval o).run E.C.P w=.ok (.value (.slice (some ⟨b,0,none⟩) (n+ys.length) c)) (w.setCells b (n*j.size) news):=by simp[execOp,ho,resolve,invoke,builtin,MI,Pd,hrun]
   refine wp_value hex (hn _ _ _ hK ⟨{G with tail:=λt=>if t=k then some (b,n*j.size+news.length,c*j.size,T)else G.tail t},?_⟩);rw[hd];refine hg.put (some d) (v:=.slice (some ⟨b,0,none⟩) (n+ys.length) c) (x:=.gd k T j.size) (.gd k T j.size (n+ys.length) c b p1 ?_ hc p4);simp only[if_true];rw[nl,bw];obtain⟨olds,ol,or',of'⟩:=Bm (P:=E.C.P) hs hxs p1 p2;obtain⟨rest,z,hz,qF,hrun⟩:=iM (P:=E.C.P) (w:=w) (ty:=o.type) (news:=news) (olds:=olds) JZ YL hdk hok n2 n3 of' hc hbd hb0;have hcap:n+ys.length<=grownCap w (n+ys.length) c T:=grownCap_ge w _ _ _;generalize hcg:grownCap w (n+ys.length) c T=cap at*;have hrl:rest.size=(cap-(n+ys.length))*j.size:=by rw[qF,size_zeroCells,hz]
   have lU:(olds++news++rest.toList).length=cap*j.size:=by simp only[ay,ol,nl,jg,hrl,<-bw];rw[show n+ys.length+(cap-(n+ys.length))=cap from oO]
   obtain⟨G',g1,g2,g3⟩:=Ab hs.drew k hkn (zs:=xs++aG ys.flatten) (cells:=olds++news++rest.toList) (s:=(n+ys.length)*j.size) (cap:=cap*j.size) (e:=T) (by rw[ay,hxl,YM,bw]) lU (λi z hz=>by have hk:∀{v:Value}{z:FV},aT G w v z->aT G {w with drawn:=w.drawn+1} v z:=λh=>h.keep (λ_ _ h=>h) (λ_ _ _ _ h=>h) (λ_ _ _ _ h=>h) (λ_ _ h=>h) (λ_ _ h=>h);by_cases hi:i<xs.length;rw[cG hi]at hz;obtain⟨u,h2,h3⟩:=or' i z hz;exact⟨u,by rw[bu,cG oO];exact h2,hk h3⟩;rw[dH oO]at hz;obtain⟨u,h2,h3⟩:=nr _ z hz;have XW:=(aJ.1 h2).1;refine⟨u,?_,hk h3⟩;rw[cG (by rw[ay];omega),dH oO,<-h2];congr 1;omega);have hW:w.drew.alloc (.cells (olds.toArray++news.toArray++rest) T)=({w with drawn:=w.drawn+1}:World).alloc (.cells (olds++news++rest.toList).toArray T):=by
    have :olds.toArray++news.toArray++rest=(olds++news++rest.toList).toArray:=by apply iJ.1;simp
    rw[this];rfl
   rw[hW]at hrun;refine wp_value (v:=.slice (some ⟨w.heap.size,0,none⟩) (n+ys.length) cap) (w':=({w with drawn:=w.drawn+1}:World).alloc (.cells (olds++news++rest.toList).toArray T)) ?_ (hn _ _ _ hK ⟨G',?_⟩);simp[execOp,ho,resolve,invoke,builtin,MI,Pd]at hrun⊢;rw[hrun];rfl;rw[hd];exact g1.put (some d) (v:=.slice (some ⟨w.heap.size,0,none⟩) (n+ys.length) cap) (x:=.gd k T j.size) (.gd k T j.size (n+ys.length) cap w.heap.size g2 g3 hcap p4)
  exact h.elim;split at h;rename_i hb0;obtain⟨yL,hb,hK⟩:=h;rw[lD]at hK;generalize KQ:a.eval x=v at hx;cases hx with
  |full _ ad hr=>exact fin (k:=S.off+d) KQ hr (by simp) (.inl ⟨rfl,rfl⟩) yL (by simpa using hb) (bD hb0) (by simpa using hK)
  exact h.elim;split at h;rename_i hb0;obtain⟨hne,JY,yL,hb,hK⟩:=h;rw[lD]at hK;obtain⟨zs,rfl,hK⟩:=hK;generalize KQ:a.eval x=v at hx;cases hx with
  |full _ ad hr=>exact fin (k:=S.off+d) KQ hr JY (.inr (.inl ⟨hne,rfl⟩)) yL hb (bD hb0) hK
  exact h.elim;exact h.elim
 exact h.elim
theorem Eu {d o:Nat}{ys:List AV}{cells:List FV}:∀{l:List (Nat×List FV)},Qv.getObj (Eh d ys l) o=some cells->o≠d/\∃cs,Qv.getObj l o=some cs/\cells=FV.RF d ys cs:=by
 intro l;induction l with
 |nil=>intro h;cases h
 |cons p l ih=>
  obtain⟨u,i⟩:=p;intro h;simp only[Eh]at h;split at h;rename_i hb;obtain rfl:=aM hb;obtain⟨h1,cs,h2,h3⟩:=ih h;refine⟨h1,cs,?_,h3⟩;simp only[Qv.getObj];have :Nat.beq u o=false:=by cases hb:Nat.beq u o;rfl;exact absurd (aM hb).symm h1
  rw[this];exact h2;rename_i hb;simp only[Qv.getObj]at h⊢;split at h;rename_i Cg;obtain rfl:=aM Cg;obtain rfl:=au h;exact⟨bD hb,i,rfl,rfl⟩;rename_i Cg;exact ih h
theorem Pn {ys:List AV}(h:uw ys=true):∀y,y∈ys->y.one=true:=by
 induction ys with
 |nil=>simp
 |cons x xs ih=>simp only[uw]at h;split at h;rename_i h1;intro y hy;rcases aK.1 hy with rfl|hy;exact h1;exact ih h y hy;cases h
theorem lY.JL {G G':bf}{S:aj}{w:World}{d:Nat}{ys:List AV}(hi:∀b i es k,w.heap[b]?=some (.map es k)->(∃o,G'.mp o=some b)->G'.bk b i->G.bk b i)(hi':∀b,G.bk b 0->G'.bk b 0)(hmp:G'.mp=G.mp)(hit:G'.it=G.it)(hl:∀o b,G'.loc o=some b->G.loc o=some b)(ht:∀q r,G.tail (.inr q)=some r->G'.tail (.inr q)=some r:=by first|exactλ_ _ h=>h|exactλ_ _ h=>(af (λe=>nomatch e)).trans h):lY (FV.fz d ys) G G' S (S.JL d ys) w:=by refine⟨λ_=>rfl,λo l' h=>?_,λq x h=>⟨h,λr hr=>hit▸hr⟩,λ_ _ h=>hmp▸h,λ_ _ h=>hit▸h,hi,hi',λo b h=>.inl (hl o b h),ht⟩;obtain⟨l,h1,h2⟩:=wG h;exact⟨l,h1,h2,λb hb=>hmp▸hb⟩
theorem bt.ae4 (hs:bt E G S a w){d:Nat}{cells:List FV}{ys:List AV}(hdn:iw d=false)(hc:Qv.getObj S.aI d=some cells)(hy:FV.fe cells=some ys)(h1:uw ys=true):∃G',bt E G' (S.JL d ys) a w/\∀v x,aT G w v x->aT G' w v (x.fz d ys):=by
 obtain⟨B,hB,hcell⟩:=hs.aI d cells hc;obtain⟨GH,Gp,hl3⟩:=hs.gG d B hB;obtain⟨hlen,tN⟩:=FV.iC hy;let G':bf:={G with bk:=λb o=>G.bk b o\/(b=B/\o<ys.length),loc:=λo=>if o=d then none else G.loc o};have hone:=Pn h1;have vr:∀o b,G'.loc o=some b->o≠d/\G.loc o=some b:=λo b h=>by simp only[G']at h;split at h;cases h;rename_i hne;exact⟨hne,h⟩
 have up:∀v x,aT G w v x->aT G' w v (x.fz d ys):=λv x hv=>by refine hv.fz (B:=B) (λb o h=>.inl h) (λb h=>by rw[hB]at h;exact(au h).symm) (λj y hj=>?_) (λo b hne h=>by simp only[G'];rw[af hne];exact h) (λ_ _ h=>h);obtain⟨x,hx,hxy⟩:=tN j y hj;obtain⟨c,h2,h3⟩:=hcell j x hx;exact⟨hone y (bU hj),.inr ⟨rfl,(aJ.1 hj).1⟩,c,h2,(h3.eG hxy).keep (λb o h=>.inl h) (λ_ _ _ _ h=>h) (.refl _ _)⟩
 have YN:∀b i es n,b=B->i<ys.length->w.heap[b]?=some (.map es n)->False:=λb i es n e hi hb=>by subst e;obtain⟨x,hx,-⟩:=tN i _ (av hi);obtain⟨c,h2,-⟩:=hcell i x hx;rw[Cr hb]at h2;cases h2
 refine⟨G',⟨hs.kept,hs.size,hs.ext'.move (S':=S.JL d ys) (FV.fz d ys) rfl rfl rfl up (.refl _) (.JL (λb i es n hb _ h=>h.elim id λh=>(YN b i es n h.1 h.2 hb).elim) (λ_ h=>.inl h) rfl rfl (λo b h=>(vr o b h).2)),?_,?_,?_,λi hi=>up _ _ (hs.tmps i hi),λo cs ho=>?_,λo b ho=>?_,λo o' b h h'=>hs.eY o o' b (vr _ _ h).2 (vr _ _ h').2,λo t b r h h'=>lG.mono (hs.cz o t b r (vr _ _ h).2 h') (λbs q=>⟨bs,q⟩) (λcs q=>?_),λt b s e T h=>?_,hs.er⟩,up⟩;refine hs.iX.keep rfl rfl (λo bs q=>?_) (λo _ _ q=>?_) (λ_ _ e=>e) (aA _) (λ_ _ _ _ _ _=>rfl) (λ_ _ _=>rfl) (λo r i e hi=>?_) (λ_ _ o' _ e=>(vr o' _ e).2) (λ_ _ t q _ e=>⟨t,q,e⟩);refine⟨q,?_,rfl⟩;have hne:o≠d:=λe=>by have :=(hs.iX.at_ o bs q).1;rw[e,hc]at this;cases this
 simp only[G'];rw[af hne];cases h':Qv.getObj (Eh d ys S.aI) o with
 |none=>exact h'
 |some cs=>obtain⟨-,cs',h2,-⟩:=Eu h';rw[q]at h2;cases h2
 rcases hi with hi|⟨rfl,-⟩;exact hi;exact absurd hB ((hs.iX.row o _ e).2.2.2.1 d);rintro b o (h|⟨rfl,-⟩);exact hs.nN b o h;exact .inr (E.HA Gp hdn);rintro b o (h|⟨rfl,-⟩);exact hs.fh b o h;exact GH;obtain⟨hne,cs0,h2,rfl⟩:=Eu ho;obtain⟨b,h3,h4⟩:=hs.aI o cs0 h2;refine⟨b,by simp only[G'];rw[af hne];exact h3,λi x hx=>?_⟩;rw[FV.uT,aN]at hx;cases hq:cs0[i]?with
 |none=>simp[hq]at hx
 |some y=>simp[hq]at hx;subst hx;obtain⟨c,h5,h6⟩:=h4 i y hq;exact⟨c,h5,up _ _ h6⟩
 obtain⟨hne,ho'⟩:=vr o b ho;obtain⟨k1,k2,k3⟩:=hs.gG o b ho';refine⟨k1,k2,λi=>⟨?_,(k3 i).2⟩⟩;rintro(h|⟨e,-⟩);exact(k3 i).1 h;exact hne (hs.eY o d b ho' (by rw[e];exact hB));obtain⟨-,cs0,h2,rfl⟩:=Eu q;exact⟨cs0,h2,by rw[FV.uT,ah]⟩;obtain⟨k1,k2,kt,k3⟩:=hs.fQ t b s e T h;refine⟨k1,k2,kt,λi hi hi'=>?_⟩;obtain⟨k4,k5,k6⟩:=k3 i hi hi';refine⟨k4,k5,?_⟩;rintro(h7|⟨rfl,hlt⟩);exact k6 h7;have :=(hs.cz d t b _ hB h).2.2 cells hc;simp only at this;omega
theorem bt.JL (hs:bt E G S a w){d:Nat}{cells:List FV}{ys:List AV}(hdn:iw d=false)(hc:Qv.getObj S.aI d=some cells)(hy:FV.fe cells=some ys)(h1:uw ys=true):∃G',bt E G' (S.JL d ys) a w:=let⟨G',h,_⟩:=hs.ae4 hdn hc hy h1;⟨G',h⟩
theorem yP:∀(ds:List Nat){K:aj->Prop}{S:aj},Fl ds K S->nO E S a w->∃S',K S'/\nO E S' a w|[],_,S,h,hs=>⟨S,h,hs⟩|d::ds,K,S,h,⟨G,hs⟩=>by simp only[Fl]at h;split at h;exact h.elim;rename_i cells hc;split at h;exact h.elim;rename_i ys hy;split at h;rename_i h1;exact yP ds h (hs.JL (iW hc).1 (iW hc).2 hy h1);exact h.elim
def marksOf:List Deferred->List Nat|[]=>[]|d::ds=>match d.target with|.collected r=>r::marksOf ds|_=>marksOf ds
theorem mc (ms:List Nat):marksOf (ms.map mark)=ms:=by
 induction ms with
 |nil=>rfl
 |cons m ms ih=>simp[marksOf,ih]
def Env.push (E:Env)(a:Act):Env:={E with mj:=none,bK:=a.tmps::E.bK,fixed:=marksOf a.defers++E.fixed}
def eR (E:Env)(Y:pH):Prop:=∀(mj:Option Nat)(xs:List (Array Value))(ls:List (Nat×Loop))(fixed:List Nat)(G:bf)(S:aj)(a:Act)(w:World)(l k:Nat)(args:List FV)(K:FV->aj->Prop)(vals:List Value),bt {E with mj:=mj,bK:=xs++E.bK,loops:=E.loops++ls,fixed:=fixed} G S a w->G.yl l=some k->Y l args K S->vals.length=args.length->(∀(i:Nat)(v:Value)(x:FV),vals[i]?=some v->args[i]?=some x->aT G w v x)->YieldAt Fence.wide 0 E.C.P k vals.toArray w λe w'=>∃v x G' S',e=.returned v/\K x S'/\bt {E with mj:=mj,bK:=xs++E.bK,loops:=E.loops++ls,fixed:=fixed} G' S' a w'/\aT G' w' v x
theorem eR.later {Y:pH}(h:eR E Y)(mj:Option Nat)(xs:List (Array Value))(ls:List (Nat×Loop))(fixed:List Nat):eR {E with mj:=mj,bK:=xs++E.bK,loops:=E.loops++ls,fixed:=fixed} Y:=by intro aj1 xs' ls' fixed' G S a w l k args K vals hs;simp only[<-bu]at hs⊢;rw[bu E.loops ls ls']at hs⊢;exact h aj1 (xs'++xs) (ls++ls') fixed' G S a w l k args K vals hs
theorem eR.push {Y:pH}(h:eR E Y)(a:Act):eR (E.push a) Y:=by have :=h.later none [a.tmps] [] (marksOf a.defers++E.fixed);simp only[aW]at this;exact this
def mS (C:Ctx)(call:iQ):Prop:=∀(E:Env),E.C=C->∀(Y:pH)(g:FuncId)(args:List FV)(K:FV->aj->Prop)(G:bf)(S:aj)(a:Act)(w:World)(vals:List Value),bt E G S a w->eR (E.push a) Y->call Y g args K S->vals.length=args.length->(∀(i:Nat)(v:Value)(x:FV),vals[i]?=some v->args[i]?=some x->aT G w v x)->(∃fn,C.P.funcs[g]?=some fn/\fn.body.isNone=false/\(fn.name== "runtime.NumGoroutine")=false)/\CallsIn Fence.wide 0 C.P g vals.toArray w λe w'=>∃v x G' S',e=.returned v/\K x S'/\bt E G' S' a w'/\aT G' w' v x
theorem Po {P:Program}{f:FuncId}{args:Array Value}{w:World}{R:Ending->World->Prop}(h:CallsIn Fence.wide 0 P f args w R):CallsIn E.jb 0 P f args w R:=by unfold Env.jb;split;exact h;exact CallsIn.inRound _ h
theorem yH {P:Program}{l:Nat}{f:FuncId}{tmps:Array Value}{assign body:Code}{w:World}{R:Ending->World->Prop}(h:RoundIn Fence.wide 0 P l f tmps assign body w R):RoundIn E.jb 0 P l f tmps assign body w R:=by unfold Env.jb;split;exact h;exact h
theorem yQ {bk:Nat->Nat->Prop}{cs:List Value}{xs:List AV}(h:cs.length=xs.length/\∀(i:Nat)(c:Value)(x:AV),cs[i]?=some c->xs[i]?=some x->dA bk w c x)(hi:bk=G.bk):cs.length=(aG xs).length/\∀(i:Nat)(c:Value)(x:FV),cs[i]?=some c->(aG xs)[i]?=some x->aT G w c x:=by
 rw[eN];refine⟨by simp[h.1],λi c x hc hx=>?_⟩;rw[aN]at hx;cases hq:xs[i]?with
 |none=>simp[hq]at hx
 |some y=>simp[hq]at hx;subst hx;exact .p _ _ (hi▸h.2 i c y hc hq)
theorem wp_bld (hs:bt E G S a w){f:Operand}{args:Array Operand}{types:Array TypeId}{g:FuncId}{first captured:Array Value}{ob:Nat}{bs:List UInt8}{rest:List FV}{K:aj->Prop}(ho:o.op=.call ⟨.value f,args,types⟩)(hf:a.eval f=.func (.func g) first captured)(hr:(first++args.map a.eval++captured).toList.length=(FV.ptr ob 0::rest).length/\∀(i:Nat)(c:Value)(x:FV),(first++args.map a.eval++captured).toList[i]?=some c->(FV.ptr ob 0::rest)[i]?=some x->aT G w c x)(vj:lT S.cT ob=some bs)(h:Yf E.C S o.dst g ob bs rest K){next:Act->World->Prop}{Q:Exit->Act->World->Prop}(hn:∀S' a' w',K S'->nO E S' a' w'->next a' w'):Bl E o a w next Q:=by
 unfold Yf at h;split at h;exact h.elim;rename_i xs hxs;obtain⟨out,r,⟨⟨fn,h1,h2,h3⟩,hc⟩,hk⟩:=h;generalize hvs:(first++args.map a.eval++captured)=vs at hr;obtain⟨vs⟩:=vs;match vs,hr with
  |[],hr=>simp at hr
  |v0::vs,hr=>
   obtain⟨b,rfl,hl⟩:=(hr.2 0 v0 _ rfl rfl).oU;obtain⟨-,b0,hl0,rQ⟩:=hs.iX.at_ ob bs vj;rw[hl]at hl0;obtain rfl:=au hl0;have qF:=nY (G:=G) (w:=w) (cs:=vs) (xs:=rest) ⟨by simpa using hr.1,λi c x q1 q2=>hr.2 (i+1) c x (by simpa using q1) (by simpa using q2)⟩ hxs;obtain⟨-,l2,l3⟩:=hs.gG ob b hl;have hng:E.C.mV<=b:=by rcases l2 with l2|l2;have :=E.hn;omega;exact(E.hown b (E.Co _ l2.2).1).1
   have :=hc G.bk w b (G.row ob) vs hs.J.1 hs.J.2 hs.fh hng (λr hr=>by rcases(hs.iX.row ob r hr).1 with h|h;have :=E.hn;omega;exact(E.hown r (E.hrows _ h.2)).1) (λi=>(l3 i).1) (λr i hr=>(hs.iX.row ob r hr).2.2.1 i) rQ qF.1 qF.2;refine⟨λf _=>Env.gi f,?_⟩;have Se:first++args.map a.eval++captured=(.pointer (some ⟨b,0,none⟩)::vs).toArray:=by rw[hvs]
   rw[Oper.semAt_eq _ _ _ (λc=>by rw[ho];simp),tQ ho hf h1 h2 h3,Oper.uponIn_enter,Se];refine⟨λh=>(by rw[Env.kq]at h;cases h),mO (Calls.mono this ?_)⟩;rintro e w' ⟨v,rfl,hv,hout,f1,f2,f3,f4,f5⟩;have VR:∀{G':bf},aT G' w' v (.p r):=λ{G'}=>.p _ _ (hv.keep (λ_ _ h=>h.elim) (λ_ _ _ h=>h.elim) (λ_ _ _ h=>h.elim));cases out with
   |some bs'=>
    obtain⟨row',acP,hrow⟩:=hout;have hlt:∀x,row'=some x->x<w'.heap.size:=λx hx=>by obtain⟨p,u,-,-,h6⟩:=acP;rw[hx]at h6;obtain⟨-,cap,cur,-,h7,-⟩:=h6;exact(bq.1 h7).1
    obtain⟨hg,-⟩:=hs.Ul (Um:=Yd S.cT ob bs') (row':=row') vj hl (by obtain⟨p,u,-,h6,-⟩:=acP;exact⟨_,_,h6⟩) (hrow.imp id λh=>h.imp id λ⟨x,q1,q2⟩=>⟨x,q1,q2,hlt x q1⟩) (λx hx=>by obtain⟨p,u,-,-,h6⟩:=acP;rw[hx]at h6;obtain⟨-,cap,cur,-,h7,-⟩:=h6;exact⟨_,_,_,h7⟩) f1 f2 f3 f4 f5 (λq bs2 hq=>(YD hq).imp (λ⟨q1,q2⟩=>⟨q1,q2▸acP⟩) id);exact hn _ _ _ hk ⟨_,hg.put o.dst VR⟩
   |none=>obtain⟨hg,-⟩:=hs.Ul (Um:=Ch ob S.cT) (row':=none) vj hl hout (.inr (.inl rfl)) (λx hx=>by cases hx) f1 f2 f3 f4 f5 (λq bs2 hq=>.inr (kr hq));exact hn _ _ _ hk ⟨_,hg.put o.dst VR⟩
theorem bt.HR (hs:bt E G S a w){ob b:Nat}{cells:List FV}(vj:Qv.getObj S.aI ob=some cells)(fF:G.loc ob=some b)(hne:cells≠[]):∃cs T fr,w.heap[b]?=some (.cells cs T fr):=by obtain⟨b',h1,h2⟩:=hs.aI ob cells vj;rw[fF]at h1;obtain rfl:=au h1;match cells,hne with|x::xs,_=>obtain⟨c,h3,-⟩:=h2 0 x rfl;unfold World.cell? at h3;split at h3;rename_i h4;exact⟨_,_,_,h4⟩;cases h3
theorem iY (d:Nat):∀l:List AV,FV.eD d (aG l)=aG l|[]=>rfl|x::l=>by simp[aG,FV.eD,FV.kill,iY d l]
theorem HS (d:Nat)(c:List FV):∀l:List (Nat×List FV),eA d (setObj l d c)=eA d l|[]=>rfl|(u,i)::l=>by simp only[setObj];split;rename_i h;simp only[eA,h];rename_i h;simp only[eA,h];rw[HS d c l]
theorem Gq {ob:Nat}{cells cs:List FV}:∀{l:List (Nat×List FV)},Qv.getObj l ob=some cells->Qv.getObj (setObj l ob cs) ob=some cs:=by
 intro l;induction l with
 |nil=>intro h;cases h
 |cons p l ih=>obtain⟨u,i⟩:=p;intro h;simp only[Qv.getObj]at h;simp only[setObj];split at h;rename_i hb;simp only[hb,Qv.getObj];rename_i hb;simp only[hb,Qv.getObj];exact ih h
theorem bt.ahH (hs:bt E G S a w){ob b:Nat}{cells:List FV}{zs:List AV}{w':World}(vj:Qv.getObj S.aI ob=some cells)(fF:G.loc ob=some b)(hbc:∃cs T fr,w.heap[b]?=some (.cells cs T fr))(hlen:zs.length=cells.length)(hc:∀(i:Nat)(x:AV),zs[i]?=some x->∃c,w'.cell? ⟨b,i,none⟩=some c/\dA (kW G.bk w.heap.size) w' c x)(hos:w'.os=w.os)(OY:w'.tape=w.tape)(hout:w'.output=w.output)(hsz:w.heap.size<=w'.heap.size)(hblk:∀k,k<w.heap.size->k≠b->w'.heap[k]?=w.heap[k]?)(hsh:∀cs T fr,w.heap[b]?=some (.cells cs T fr)->∃cs',w'.heap[b]?=some (.cells cs' T fr)/\cs'.size=cs.size):bt E {G with bk:=λb o=>G.bk b o\/(w.heap.size<=b/\b<w'.heap.size)} (S.Cj ob (aG zs)) a w':=by
 obtain⟨l1,l2,l3⟩:=hs.gG ob b fF;obtain⟨cs,T,fr,hb⟩:=hbc;obtain⟨cs',hb',afV⟩:=hsh cs T fr hb;have Bi:∀k i,G.bk k i->k≠b:=λk i h e=>(l3 i).1 (e▸h);have hcell:∀k i,k<w.heap.size->k≠b->w'.cell? ⟨k,i,none⟩=w.cell? ⟨k,i,none⟩:=λk i h1 h2=>by unfold World.cell?;simp only[hblk k h1 h2]
 have Fo:∀k i,k<w.heap.size->w'.frozen? ⟨k,i,none⟩=w.frozen? ⟨k,i,none⟩:=λk i h1=>by by_cases h2:k=b;subst h2;simp[World.frozen?,hb,hb'];unfold World.frozen?;simp only[hblk k h1 h2]
 have others:fV w w':=λk o hk ho=>by rw[hblk k (bq.1 hk).1 (λe=>by subst e;rw[hb]at hk;obtain rfl:=au hk;simp[Obj.isCells]at ho)];exact hk
 have keep:∀v x,aT G w v x->aT {G with bk:=λb o=>G.bk b o\/(w.heap.size<=b/\b<w'.heap.size)} w' v x:=λv x hv=>hv.keep (λb o hi=>.inl hi) (λk o c hi hc=>by rw[hcell k o (hs.fh k o hi) (Bi k o hi)];exact hc) (others.pY _) (λ_ _ e=>e) (λ_ _ e=>e);have KR:∀o r,G.row o=some r->r≠b:=λo r h e=>(hs.iX.row o r h).2.2.2.1 ob (e▸fF);refine⟨⟨hos.trans hs.kept.os,OY.trans hs.kept.tape,hout.trans hs.kept.output,ck hs.kept.size hsz,λk hk hk'=>?_,λk c1 T1 f1 hk q=>?_⟩,hs.size,hs.ext'.keep rfl rfl rfl keep others (HB:=.more rfl rfl rfl rfl (λb i hi=>hi.imp id λhi=>hi.1) (λb hi=>.inl hi) λ_ _ h=>.inl h),?_,?_,?_,λi hi=>keep _ _ (hs.tmps i hi),λo cs2 ho=>?_,λo b2 ho=>?_,hs.eY,λo t b2 r q1 q2=>?_,λt b2 s e T2 h=>?_,hs.er⟩;rw[hblk k (dW hk hs.kept.size) (E.Mv l2 hk hk')];exact hs.kept.block k hk hk';obtain⟨c2,q1,q2⟩:=hs.kept.shape k c1 T1 f1 hk q;by_cases hkb:k=b;subst hkb;obtain⟨c3,q3,q4⟩:=hsh c2 T1 f1 q1;exact⟨c3,q3,q4.trans q2⟩;exact⟨c2,by rw[hblk k (bq.1 q1).1 hkb];exact q1,q2⟩;refine hs.iX.keep rfl rfl (λo bs q=>⟨q,rfl,rfl⟩) (λo bs _ q=>?_) (λ_ _ e=>e) hsz (λo bs b2 q q2 e=>hblk b2 (hs.gG o b2 e).1 (λe2=>?_)) (λo r e=>hblk r (hs.iX.row o r e).2.1 (KR o r e)) (λo r i e hi=>hi.elim id λhi=>absurd (hs.iX.row o r e).2.1 oO) (λ_ _ _ _ e=>e) (λ_ _ t q _ e=>⟨t,q,e⟩);cases h':Qv.getObj (S.Cj ob (aG zs)).aI o with
 |none=>rfl
 |some cs=>rcases qQ h' with⟨rfl,-⟩|⟨-,h2⟩;rw[vj]at q;cases q;rw[q]at h2;cases h2
 have :=hs.eY o ob b2 e (e2▸fF);subst this;rw[vj]at q2;cases q2;rintro k o (hi|⟨hi,_⟩);exact hs.nN k o hi;exact .inr (ck hs.kept.size hi);rintro k o (hi|⟨_,hi⟩);exact dW (hs.fh k o hi) hsz;exact hi;rcases qQ ho with⟨rfl,rfl⟩|⟨hne,ho⟩;refine⟨b,fF,λi y hy=>?_⟩;rw[eN,aN]at hy;cases hq:zs[i]?with
 |none=>simp[hq]at hy
 |some z=>simp only[hq,eM,bN]at hy;subst hy;obtain⟨c,h1,h2⟩:=hc i z hq;refine⟨c,h1,.p _ _ (h2.uu (λb o c hi hc=>⟨hi.imp id λh=>⟨h,World.block_lt_of_cell? w' _ hc⟩,hc⟩) λb es k hi hb=>⟨hi.imp id λh=>⟨h,(bq.1 hb).1⟩,hb⟩)⟩
 obtain⟨b2,h2,h3⟩:=hs.aI o cs2 ho;have Cg:b2≠b:=λe=>hne (hs.eY o ob b2 h2 (e▸fF));exact⟨b2,h2,λi y hy=>let⟨c,h4,h5⟩:=h3 i y hy;⟨c,by rw[hcell b2 i (hs.gG o b2 h2).1 Cg];exact h4,keep _ _ h5⟩⟩;obtain⟨k1,k2,k3⟩:=hs.gG o b2 ho;refine⟨dW k1 hsz,k2,λi=>⟨?_,by rw[Fo b2 i k1];exact(k3 i).2⟩⟩;rintro(hi|⟨hi,_⟩);exact(k3 i).1 hi;omega;refine lG.mono (hs.cz o t b2 r q1 q2) (λbs q=>⟨bs,q⟩) λcs q=>?_;rcases qQ q with⟨rfl,rfl⟩|⟨-,q⟩;exact⟨cells,vj,by rw[eN,ah];exact hlen⟩;exact⟨cs,q,rfl⟩;obtain⟨k1,k2,⟨c1,f1,kt,ku⟩,k3⟩:=hs.fQ t b2 s e T2 h;by_cases Cg:b2=b;subst Cg;rw[hb]at kt;injection au kt with e1 e2 e3;subst e1;subst e2;subst e3;refine⟨dW k1 hsz,k2,⟨_,_,hb',ku⟩,λi hi hi'=>?_⟩;obtain⟨⟨c,k4⟩,k5,k6⟩:=k3 i hi hi';refine⟨?_,by rw[Fo b2 i k1];exact k5,?_⟩;have hlt:i<cs.size:=by simp only[World.cell?,hb]at k4;exact(bq.1 (by simpa using k4)).1
 exact⟨cs'[i]'oO,by simp[World.cell?,hb',afV▸hlt]⟩;rintro(hi|⟨hi,_⟩);exact k6 hi;omega;refine⟨dW k1 hsz,k2,⟨c1,f1,by rw[hblk b2 k1 Cg];exact kt,ku⟩,λi hi hi'=>?_⟩;obtain⟨⟨c,k4⟩,k5,k6⟩:=k3 i hi hi';refine⟨⟨c,by rw[hcell b2 i k1 Cg];exact k4⟩,by rw[Fo b2 i k1];exact k5,?_⟩;rintro(hi|⟨hi,_⟩);exact k6 hi;omega
theorem wp_obj (hs:bt E G S a w){f:Operand}{args:Array Operand}{types:Array TypeId}{g:FuncId}{first captured:Array Value}{xs:List FV}{K:aj->Prop}(ho:o.op=.call ⟨.value f,args,types⟩)(hf0:a.eval f=.func (.func g) first captured)(hr:(first++args.map a.eval++captured).toList.length=xs.length/\∀(i:Nat)(c:Value)(x:FV),(first++args.map a.eval++captured).toList[i]?=some c->xs[i]?=some x->aT G w c x)(h:Ot E.C S o.dst g xs K){next:Act->World->Prop}{Q:Exit->Act->World->Prop}(hn:∀S' a' w',K S'->nO E S' a' w'->next a' w'):Bl E o a w next Q:=by
 unfold Ot at h;split at h;rename_i ob rest;split at h;rename_i cells as1 vj has;split at h;rename_i z zs hcells;obtain⟨R,⟨⟨fn,h1,h2,h3⟩,hc⟩,hk⟩:=h;obtain⟨b,fF,hcs⟩:=hs.aI ob cells vj;obtain⟨l1,l2,l3⟩:=hs.gG ob b fF;obtain⟨g1,g2⟩:=FV.iC hcells;generalize hvs:(first++args.map a.eval++captured)=vs0 at hr;obtain⟨vs⟩:=vs0;match vs,hr with
  |[],hr=>simp at hr
  |v::vs,hr=>
   have hv:=hr.2 0 v _ rfl rfl;obtain⟨b',rfl,hb'⟩:=hv.oU;rw[fF]at hb';obtain rfl:=au hb';have Se:=nY (cs:=vs) (xs:=rest) (ys:=as1) ⟨by simpa using hr.1,λi c x q1 q2=>hr.2 (i+1) c x (by simpa using q1) (by simpa using q2)⟩ has;have hJ:=hs.J;have hng:E.C.mV<=b:=by rcases l2 with l2|l2;have :=E.hn;omega;exact(E.hown b (E.Co _ l2.2).1).1
   have :=hc G.bk w b vs hJ.1 hJ.2 hs.fh hng l1 l3 (λi x hx=>by obtain⟨y,hy,hxy⟩:=g2 i x hx;obtain⟨c,q1,q2⟩:=hcs i y hy;exact⟨c,q1,q2.eG hxy⟩) Se.1 Se.2;refine⟨λf _=>Env.gi f,?_⟩;rw[Oper.semAt_eq _ _ _ (λc=>by rw[ho];simp),tQ ho hf0 h1 h2 h3,Oper.uponIn_enter,hvs];refine⟨λh=>(by rw[Env.kq]at h;cases h),mO (Calls.mono this ?_)⟩;rintro e w' ⟨u,r,cells',rfl,hR,hl,oC,hc',q1,q2,q3,q4,q5,q6⟩;have hne:cells≠[]:=λe=>by subst e;simp at g1
   have hs':=hs.ahH vj fF (hs.HR vj fF hne) (zs:=cells') (hl.trans g1) hc' q1 q2 q3 q4 q5 q6;refine hn _ _ _ (hk r cells' hR) ⟨_,hs'.put o.dst (.p _ _ (oC.uu (λb o c hi hc=>⟨hi.imp id λh=>⟨h,World.block_lt_of_cell? w' _ hc⟩,hc⟩) λb es k hi hb=>⟨hi.imp id λh=>⟨h,(bq.1 hb).1⟩,hb⟩))⟩
 exact h.elim;exact h.elim;rename_i ob T bM rest;split at h;rename_i cells as1 aj4 has;split at h;rename_i zs hcells;obtain⟨hon,vj⟩:=iW aj4;obtain⟨R,⟨⟨fn,h1,h2,h3⟩,hc⟩,hk⟩:=h;obtain⟨b,fF,hcs⟩:=hs.aI ob cells vj;obtain⟨l1,l2,l3⟩:=hs.gG ob b fF;obtain⟨g1,g2⟩:=FV.iC hcells;generalize hvs:(first++args.map a.eval++captured)=vs0 at hr;obtain⟨vs⟩:=vs0;match vs,hr with
  |[],hr=>simp at hr
  |v::vs,hr=>
   have hv:=hr.2 0 v _ rfl rfl;obtain⟨n,c,b',rfl,p1,p2,p3,p4⟩:=hv.GF;rw[fF]at p1;obtain rfl:=au p1;have Se:=nY (cs:=vs) (xs:=rest) (ys:=as1) ⟨by simpa using hr.1,λi c x q1 q2=>hr.2 (i+1) c x (by simpa using q1) (by simpa using q2)⟩ has;have hJ:=hs.J;have hng:E.C.mV<=b:=by rcases l2 with l2|l2;have :=E.hn;omega;exact(E.hown b (E.Co _ l2.2).1).1
   have hlen:=(hs.cz ob ob b _ fF p2).2.2 cells vj;obtain⟨-,-,⟨cs,fr,tt,-⟩,-⟩:=hs.fQ _ _ _ _ _ p2;have :=hc G.bk w b n c vs hJ.1 hJ.2 hs.fh hng l1 l3 ⟨cs,fr,tt⟩ (g1.trans hlen) p3 p4 (λi x hx=>by obtain⟨y,hy,hxy⟩:=g2 i x hx;obtain⟨c,q1,q2⟩:=hcs i y hy;exact⟨c,q1,q2.eG hxy⟩) Se.1 Se.2;refine⟨λf _=>Env.gi f,?_⟩;rw[Oper.semAt_eq _ _ _ (λc=>by rw[ho];simp),tQ ho hf0 h1 h2 h3,Oper.uponIn_enter,hvs];refine⟨λh=>(by rw[Env.kq]at h;cases h),mO (Calls.mono this ?_)⟩;rintro e w' ⟨u,r,ys,full,rfl,hR,hl,hres,hc',q1,q2,q3,q4,q5,q6⟩;have hs':=hs.ahH vj fF ⟨cs,T,fr,tt⟩ (zs:=full) (hl.trans g1) hc' q1 q2 q3 q4 q5 q6;have hk:=hk r ys hR;unfold Yj at hk;cases r with
   |false=>obtain⟨rfl,rfl⟩:=hres;exact hn _ _ _ hk ⟨_,hs'.put o.dst (v:=.tuple #[]) (x:=.p (.eW [])) (jB _ _)⟩
   |true=>
    obtain⟨m,rfl,hm,rfl⟩:=hres;simp only at hk;split at hk;rename_i d hd;obtain⟨zs',rfl,hk⟩:=hk;have acK:=hs'.Uo (k:=ob) (xs:=aG full) (Gq vj) fF p2 (n:=m*bM) (ew _ hm) (ew _ p3);have e1:FV.eD ob ((aG full).take (m*bM))=aG (full.take (m*bM)):=by rw[show(aG full).take (m*bM)=aG (full.take (m*bM))from by rw[eN,eN,mz],iY]
    have e2:eA ob (S.Cj ob (aG full)).aI=eA ob S.aI:=HS ob _ S.aI;rw[e1,e2]at acK;rw[hd];exact hn _ _ _ hk ⟨_,acK.put (some d) (v:=.slice (some ⟨b,0,none⟩) m c) (x:=.gd ob T bM) (.gd ob T bM m c b fF (by simp only[if_true]) oO p4)⟩;exact hk.elim
 exact h.elim;exact h.elim;rcases h with h|h;obtain⟨d,ks,vs,hf,h⟩:=h;split at h;rename_i ys hys;obtain⟨R,hc,hk⟩:=h;obtain⟨G',hs',up⟩:=hs.Sc hf;refine wp_call hs' ho hf0 (nY (xs:=FV.XS d (.mp ks vs) xs) ⟨by rw[FV.vX,ah];exact hr.1,λi c x q1 q2=>?_⟩ hys) hc λr v w' hR hb hok=>?_;rw[FV.vX,aN]at q2;cases hq:xs[i]?with
 |none=>simp[hq]at q2
 |some y=>simp[hq]at q2;subst q2;exact up _ _ (hr.2 i c y q1 hq)
 obtain⟨hgo,hk'⟩:=GA (hk r hR);exact hn _ _ _ hk' (tE hs' hb hok hgo);exact h.elim;obtain⟨d,ys,h⟩:=h;split at h;exact h.elim;rename_i cells hcell;obtain⟨hy,h1,h⟩:=h;split at h;rename_i zs hzs;obtain⟨R,hc,hk⟩:=h;obtain⟨G',hs',up⟩:=hs.ae4 (iW hcell).1 (iW hcell).2 hy h1;refine wp_call hs' ho hf0 (nY (xs:=FV.RF d ys xs) ⟨by rw[FV.uT,ah];exact hr.1,λi c x q1 q2=>?_⟩ hzs) hc λr v w' hR hb hok=>?_;rw[FV.uT,aN]at q2;cases hq:xs[i]?with
 |none=>simp[hq]at q2
 |some y=>simp[hq]at q2;subst q2;exact up _ _ (hr.2 i c y q1 hq)
 obtain⟨hgo,hk'⟩:=GA (hk r hR);exact hn _ _ _ hk' (tE hs' hb hok hgo);exact h.elim
theorem wp_lentC (hs:bt E G S a w){f:Operand}{args:Array Operand}{types:Array TypeId}{g:FuncId}{first captured:Array Value}{xs:List FV}{K:aj->Prop}(ho:o.op=.call ⟨.value f,args,types⟩)(hf:a.eval f=.func (.func g) first captured)(hr:(first++args.map a.eval++captured).toList.length=xs.length/\∀(i:Nat)(c:Value)(x:FV),(first++args.map a.eval++captured).toList[i]?=some c->xs[i]?=some x->aT G w c x)(h:Ub E.C S o.dst g xs K){next:Act->World->Prop}{Q:Exit->Act->World->Prop}(hn:∀S' a' w',K S'->nO E S' a' w'->next a' w'):Bl E o a w next Q:=by
 obtain⟨ρ,aI,m,l,az,R,rfl,⟨c1,c2,c3,c4,c5⟩,hsub,hm,Sa,⟨⟨fn,h1,h2,h3⟩,hc⟩,hk⟩:=h;obtain⟨loc,YQ⟩:∃loc:Nat->Option Nat,∀o,loc o=if gM o (jf aI)=true then G.loc (GB ρ o)else none:=⟨_,λ_=>rfl⟩;obtain⟨mp,afX⟩:∃mp:Nat->Option Nat,∀o,mp o=if o=m then G.mp (GB ρ o)else none:=⟨_,λ_=>rfl⟩;have fF:∀o b,loc o=some b->gM o (jf aI)=true/\G.loc (GB ρ o)=some b:=λo b h=>by rw[YQ]at h;split at h;rename_i h';exact⟨h',h⟩;cases h
 have hmp:∀o b,mp o=some b->o=m/\G.mp (GB ρ o)=some b:=λo b h=>by rw[afX]at h;split at h;rename_i h';exact⟨h',h⟩;cases h
 have hJ:=hs.J;have hng:∀o b,E.mine o b->E.C.mV<=b:=λo b h=>by rcases E.Cp h with h|h;have :=E.hn;omega;exact(E.hown b h).1
 have back:∀v x,x.only (jf aI) m=true->aT G w v (x.nm ρ)->aT (ux G.bk loc mp) w v x:=λv x hx hv=>hv.back (λ_ _ h=>h) (λo b q1 q2=>by rw[YQ,ag q1];exact q2) (λb q=>by rw[afX,ag rfl];exact q) x hx rfl;obtain⟨B,gu,es,b1,b2,b3,b4,b5⟩:=hs.ext'.mps.at_ _ _ hm;obtain⟨d1,d2,-⟩:=hs.ext'.mps.loc _ _ b1;have afT:B<w.heap.size:=(bq.1 b2).1;have OZ:∀o b,loc o=some b->∃cells,Qv.getObj aI o=some cells/\Qv.getObj S.aI (GB ρ o)=some (FV.Hp ρ cells)/\iw o=true/\FV.ym (jf aI) m cells=true/\FV.Hp ρ cells≠[]:=λo b h=>by obtain⟨cells,q⟩:=Ac.1 (oJ.1 (fF o b h).1);obtain⟨g1,g2,g3⟩:=sJ c2 q;exact⟨cells,q,yO hsub q,g1,g2,λe=>g3 (by have :=bg List.length e;rw[qc]at this;exact bQ.1 this)⟩
 have rQ:Yl E.C.mV G.bk loc mp w aI m l:=by refine⟨λo b q=>?_,λo cells q=>?_,λo o' b q q'=>?_,λo b q=>?_,⟨B,gu,es,by rw[afX,ag rfl];exact b1,b2,b3,by rw[b4,vY,ah],λi e p he hp=>?_⟩,λo o' b q q'=>?_⟩;obtain⟨q1,q2⟩:=fF o b q;obtain⟨cells,k1,k2,k3,k4,k5⟩:=OZ o b q;obtain⟨l1,l2,l3⟩:=hs.gG _ _ q2;exact⟨k3,q1,hs.HR k2 q2 k5,hng _ _ l2,l1,l3⟩;obtain⟨g1,g2,g3⟩:=sJ c2 q;obtain⟨b,h4,h5⟩:=hs.aI _ _ (yO hsub q);refine⟨b,by rw[YQ,ag (oJ.2 (Ac.2 ⟨_,q⟩))];exact h4,λi x hx=>?_⟩;obtain⟨c,h6,h7⟩:=h5 i (x.nm ρ) (by rw[oZ,hx];rfl);exact⟨c,h6,back _ _ (pM g2 hx) h7⟩;exact KS c5 (oJ.1 (fF o b q).1) (oJ.1 (fF o' b q').1) (hs.eY _ _ b (fF o b q).2 (fF o' b q').2);obtain⟨rfl,q2⟩:=hmp o b q;rw[b1]at q2;obtain rfl:=au q2;exact⟨rfl,c3,hng _ _ d1,afT,d2⟩;have :=b5 i e (p.1,p.2.nm ρ) he (by rw[vY,aN,hp];rfl);exact⟨this.1,back _ _ (Es c4 hp) this.2⟩;exact hs.ext'.mps.apart _ _ b (hmp o b q).2 (fF o' b q').2
 have :=hc G.bk loc mp w (first++args.map a.eval++captured).toList hJ.1 hJ.2 hs.fh rQ (by rw[hr.1,qc]) λi v x q1 q2=>back v x (pM c1 q2) (hr.2 i v _ q1 (by rw[oZ,q2];rfl));refine⟨λf _=>Env.gi f,?_⟩;rw[Oper.semAt_eq _ _ _ (λc=>by rw[ho];simp),tQ ho hf h1 h2 h3,Oper.uponIn_enter];refine⟨λh=>(by rw[Env.kq]at h;cases h),mO (Calls.mono this ?_)⟩;rintro e w' ⟨v,r,l',rfl,hR,oC,hO,⟨B',Bh,es',e1,e2,e3,e4,e5⟩,p1,p2,p3,p4,p5⟩;have eB:=(hmp m B' e1).2;rw[b1]at eB;obtain rfl:=au eB;obtain⟨w1,hw1⟩:∃w1,w'.putObj B (.map es.toArray gu)=w1:=⟨_,rfl⟩;have ahI:w1.heap[B]?=some (.map es.toArray gu):=by rw[<-hw1];exact World.putObj_heap_same (dW afT p4)
 have afY:∀k,k≠B->w1.heap[k]?=w'.heap[k]?:=λk hk=>by rw[<-hw1];exact World.putObj_heap_other hk
 have YR:w1.heap.size=w'.heap.size:=by rw[<-hw1];exact World.putObj_size
 have YS:∀b i,w1.cell? ⟨b,i,none⟩=w'.cell? ⟨b,i,none⟩:=λb i=>by rw[<-hw1];exact Fs e2 rfl rfl b i
 have conv:∀{v:Value}{x:FV},aT (ux (kW G.bk w.heap.size) loc mp) w' v x->aT {G with bk:=λb o=>G.bk b o\/(w.heap.size<=b/\b<w1.heap.size)} w1 v (x.nm ρ):=λ{v x} hv=>by
  have h1:aT (ux (λb o=>G.bk b o\/(w.heap.size<=b/\b<w1.heap.size)) loc mp) w1 v x:=by refine hv.uu (λb o c hi hc=>⟨?_,by rw[YS];exact hc⟩) (λb es k hi hb=>⟨?_,?_⟩) (λ_ _ h=>h) (λ_ _ h=>h);have :=World.block_lt_of_cell? w' _ hc;exact hi.imp id λh=>⟨h,by rw[YR];exact this⟩;have :=(bq.1 hb).1;exact hi.imp id λh=>⟨h,by rw[YR];exact this⟩;rw[afY b (λe=>by subst e;exact hi.elim (d2 0) (λh=>by have :w.heap.size<=b:=h;omega))];exact hb
  exact h1.fwd rfl (λo b q=>(fF o b q).2) λo b q=>(hmp o b q).2
 have ahJ:∀{v:Value}{x:AV},dA (kW G.bk w.heap.size) w' v x->dA (λb o=>G.bk b o\/(w.heap.size<=b/\b<w1.heap.size)) w1 v x:=λ{v x} hv=>by
  have :=conv (.p v x hv);cases this with
  |p _ _ h=>exact h
 have hblk:∀k,k<w.heap.size->(¬∃o,loc o=some k)->w1.heap[k]?=w.heap[k]?:=λk hk hd=>by by_cases hkB:k=B;subst hkB;rw[ahI,b2];rw[afY k hkB];exact p5 k hk (λo e=>hd ⟨o,e⟩) λo e=>hkB (by obtain⟨rfl,q⟩:=hmp o k e;rw[b1]at q;exact(au q).symm)
 have hA:=hs.ahG (w':=w1) (λk=>∃o,loc o=some k) (λk ⟨o,hk⟩=>by
  obtain⟨cells,k1,k2,k3,k4,k5⟩:=OZ o k hk;obtain⟨q1,q2⟩:=hO o k hk;have hkB:k≠B:=λe=>hs.ext'.mps.apart _ _ _ b1 (e▸(fF o k hk).2);refine⟨GB ρ o,FV.Hp ρ cells,(fF o k hk).2,k2,hs.HR k2 (fF o k hk).2 k5,λcs T fr hcs=>?_,λi x hx=>?_⟩;rw[afY k hkB];exact q2 cs T fr hcs;rw[oZ]at hx;cases hy:cells[i]?with
  |none=>simp[hy]at hx
  |some y=>simp[hy]at hx;subst hx;obtain⟨c,k6,k7⟩:=q1 cells i y k1 hy;exact⟨c,by rw[YS];exact k6,conv k7⟩) ((by rw[<-hw1];rfl:w1.os=w'.os).trans p1) ((by rw[<-hw1];rfl:w1.tape=w'.tape).trans p2) ((by rw[<-hw1];rfl:w1.output=w'.output).trans p3) (by rw[YR];exact p4) hblk
 have hB2:=hA.MJ (ob:=GB ρ m) (b:=B) (es:=es) (gu:=gu) (es':=es') (Bh:=Bh) (l':=uq (FV.nm ρ) l') b1 ahI e3 (by rw[e4,vY,ah]) (λi e p he hp=>by
  rw[vY,aN]at hp;cases hq:l'[i]?with
  |none=>simp[hq]at hp
  |some q=>simp[hq]at hp;subst hp;exact⟨ahJ (e5 i e q he hq).1,conv (e5 i e q he hq).2⟩) (λT z k q=>by rw[Sa]at q;cases q)
 have hw2:w1.putObj B (.map es'.toArray Bh)=w':=by rw[<-hw1,Sd];exact Ft e2
 rw[hw2]at hB2;refine hn _ _ _ (hk r l' hR) ⟨_,hB2.put o.dst (.p _ _ (oC.uu (λb o c hi hc=>⟨hi.imp id λh=>⟨h,by rw[YR];exact World.block_lt_of_cell? w' _ hc⟩,hc⟩) λb es k hi hb=>⟨hi.imp id λh=>⟨h,by rw[YR];exact(bq.1 hb).1⟩,hb⟩))⟩
theorem dA.Ho {bk uo:Nat->Nat->Prop}{w:World}{v:Value}{x:AV}(h:dA bk w v x)(hx:x.Ho=true):dA uo w v x:=by
 cases h with
 |eW cs xs hl hr=>exact .eW cs xs hl λi c x h1 h2=>(hr i c x h1 h2).flat (VD hx x (bU h2))
 |bool b=>exact .bool b
 |int k n=>exact .int k n
 |str s=>exact .str s
 |yg=>exact .yg
 |Ee=>exact .Ee
 |tH=>exact .tH
 |vU=>exact .vU
 |_=>simp[AV.Ho,AV.flat]at hx
def yR (w:World):Nat->Nat->Prop:=λb _=>b<w.heap.size
theorem dA.all (hs:bt E G S a w){v:Value}{x:AV}(h:dA G.bk w v x):dA (yR w) w v x:=h.keep (λb o h=>hs.fh b o h) (λ_ _ _ _ h=>h) (.refl _ _)
mutual theorem YT (hs:bt E G S a w):∀{v:Value}{x:FV}{y:AV},aT G w v x->Fk S x y->dA (yR w) w v y
 |v,x,y,hx,.plain h=>dA.all hs (hx.eG h)
 |v,.gd ob T bM,.sl xss,hx,.gd (cells:=cells) h1 h2 h3=>by
  obtain⟨n,c,b,rfl,p1,p2,p3,p4⟩:=hx.GF;obtain⟨-,vj⟩:=iW h1;have hlen:=(hs.cz ob ob b _ p1 p2).2.2 cells vj;obtain⟨b',AJ,hcs⟩:=hs.aI ob cells vj;rw[p1]at AJ;obtain rfl:=au AJ;have g:=pN hs h2;have hfl:xss.flatten.length=xss.length*bM:=fR λzs hz=>(h3 zs hz).1;have hn:n=xss.length:=by
   have :xss.length*bM=n*bM:=by rw[<-hfl,g.1];exact hlen
   exact(ga p4 this).symm
  subst hn;have hb:=(hs.gG ob b p1).1;have get:∀(i:Nat)(ys:List AV)(j:Nat)(y:AV),xss[i]?=some ys->ys[j]?=some y->∃u,w.cell? ⟨b,i*bM+j,none⟩=some u/\dA (yR w) w u y:=λi ys j y q1 q2=>by
   have q:=nD (λzs hz=>(h3 zs hz).1) q1 q2;have hlt:i*bM+j<cells.length:=by rw[<-g.1];exact(aJ.1 q).1
   obtain⟨c,k1,k2⟩:=hcs _ _ (av hlt);exact⟨c,k1,g.2 _ _ _ _ (av hlt) q k2⟩
  refine .sl b 0 c bM xss (λi j=>(w.cell? ⟨b,i*bM+j,none⟩).getD undef) (λi ys q=>(h3 ys (bU q)).1) (λi ys j y q1 q2=>(h3 ys (bU q1)).2 y (bU q2)) (λi ys j y q1 q2=>?_) (λi ys j y q1 q2=>hb) (λi ys j y q1 q2=>?_) p3;obtain⟨u,k1,k2⟩:=get i ys j y q1 q2;rw[de,k1];rfl;obtain⟨u,k1,k2⟩:=get i ys j y q1 q2;rw[k1];exact k2
 |v,.ptr ob 0,.imp ys,hx,.ptr (cells:=cells) h1 h2 h3=>by
  obtain⟨b,rfl,p1⟩:=hx.oU;obtain⟨-,vj⟩:=iW h1;have hb:=(hs.gG ob b p1).1;obtain⟨b',AJ,hcs⟩:=hs.aI ob cells vj;rw[p1]at AJ;obtain rfl:=au AJ;have g:=pN hs h2;have get:∀(j:Nat)(y:AV),ys[j]?=some y->∃u,w.cell? ⟨b,j,none⟩=some u/\dA (yR w) w u y:=λj y q=>by
   have hlt:j<cells.length:=by rw[<-g.1];exact(aJ.1 q).1
   obtain⟨c,k1,k2⟩:=hcs _ _ (av hlt);exact⟨c,k1,g.2 _ _ _ _ (av hlt) q k2⟩
  refine .imp b 0 ys (λj=>(w.cell? ⟨b,j,none⟩).getD undef) (λj y q=>h3 y (bU q)) (λj y q=>?_) (λj y q=>hb) (λj y q=>?_);obtain⟨u,k1,k2⟩:=get j y q;rw[de,k1];rfl;obtain⟨u,k1,k2⟩:=get j y q;rw[k1];exact k2
 |v,.fG ob,.mp ks vs,hx,.fG (l:=l) h1 h2 h3=>by
  cases hx with
  |fG _ b0 hm=>
   obtain⟨b,gu,es,p1,p2,p3,p4,p5⟩:=hs.ext'.mps.at_ ob l h1;rw[hm]at p1;obtain rfl:=au p1;have hb:b0<w.heap.size:=(bq.1 p2).1;have g:=pN hs h3;have hkl:ks.length=l.length:=by rw[<-h2,nV,ah]
   refine .mp b0 gu es ks vs oO (by rw[g.1,zZ,ah];omega) hb p2 p3 (λi e x q1 q2=>?_) (λi e x q1 q2=>?_);have Eb:i<l.length:=by have :=(aJ.1 q1).1;omega
   have :=(p5 i e _ q1 (av Eb)).1;rw[<-h2,nV,aN,av Eb]at q2;obtain rfl:=au q2;exact dA.all hs this;have Eb:i<l.length:=by have :=(aJ.1 q1).1;omega
   have :=(p5 i e _ q1 (av Eb)).2;exact g.2 i _ _ _ (by rw[zZ,aN,av Eb];rfl) q2 this
 |v,.fn ff fs cs,.fn _ a b,hx,.fn h1 h2=>by
  cases hx with
  |fn _ vs us _ _ q1 q2 q3 q4=>
   have g1:=pN hs h1;have g2:=pN hs h2;refine .fn _ vs us a b (q1.trans g1.1.symm) (q2.trans g2.1.symm) (λi c x k1 k2=>?_) (λi c x k1 k2=>?_);have hlt:i<fs.length:=by rw[<-g1.1];exact(aJ.1 k2).1
   exact g1.2 i _ _ _ (av hlt) k2 (q3 i c _ k1 (av hlt));have hlt:i<cs.length:=by rw[<-g2.1];exact(aJ.1 k2).1
   exact g2.2 i _ _ _ (av hlt) k2 (q4 i c _ k1 (av hlt))
 |v,.agg xs,.agg ys,hx,.agg h1 h2=>by
  cases hx with
  |agg vs _ q1 q2=>
   have g1:=pN hs h1;refine .agg vs ys (q1.trans g1.1.symm) h2 (λi c x k1 k2=>?_);have hlt:i<xs.length:=by rw[<-g1.1];exact(aJ.1 k2).1
   exact g1.2 i _ _ _ (av hlt) k2 (q2 i c _ k1 (av hlt)) theorem pN (hs:bt E G S a w):∀{xs:List FV}{ys:List AV},vo S xs ys->ys.length=xs.length/\∀(i:Nat)(x:FV)(y:AV)(v:Value),xs[i]?=some x->ys[i]?=some y->aT G w v x->dA (yR w) w v y
 |xs,ys,.plain h=>by obtain⟨g1,g2⟩:=FV.iC h;refine⟨g1,λi x y v q1 q2 q3=>?_⟩;obtain⟨x',k1,k2⟩:=g2 i y q2;rw[q1]at k1;obtain rfl:=au k1;exact dA.all hs (q3.eG k2)
 |[],[],.nil=>⟨rfl,λi x y v q1=>by simp at q1⟩
 |x::xs,y::ys,.cons h1 h2=>by
  have ih:=pN hs h2;refine⟨by simp[ih.1],λi x' y' v q1 q2 q3=>?_⟩;cases i with
  |zero=>simp at q1 q2;subst q1;subst q2;exact YT hs q3 h1
  |succ i=>exact ih.2 i x' y' v (by simpa using q1) (by simpa using q2) q3 end
theorem VS (hs:bt E G S a w){vs:List Value}{xs:List FV}{ys:List AV}(hr:vs.length=xs.length/\∀(i:Nat)(c:Value)(x:FV),vs[i]?=some c->xs[i]?=some x->aT G w c x)(h:vo S xs ys):vs.length=ys.length/\∀(i:Nat)(c:Value)(y:AV),vs[i]?=some c->ys[i]?=some y->dA (yR w) w c y:=by
 have g:=pN hs h;refine⟨hr.1.trans g.1.symm,λi c y q1 q2=>?_⟩;have hlt:i<xs.length:=by rw[<-g.1];exact(aJ.1 q2).1
 exact g.2 i _ _ _ (av hlt) q2 (hr.2 i c _ q1 (av hlt))
theorem wp_lend (hs:bt E G S a w){f:Operand}{args:Array Operand}{types:Array TypeId}{g:FuncId}{first captured:Array Value}{xs:List FV}{K:aj->Prop}(ho:o.op=.call ⟨.value f,args,types⟩)(hf:a.eval f=.func (.func g) first captured)(hr:(first++args.map a.eval++captured).toList.length=xs.length/\∀(i:Nat)(c:Value)(x:FV),(first++args.map a.eval++captured).toList[i]?=some c->xs[i]?=some x->aT G w c x)(h:Yk E.C S o.dst g xs K){next:Act->World->Prop}{Q:Exit->Act->World->Prop}(hn:∀S' a' w',K S'->nO E S' a' w'->next a' w'):Bl E o a w next Q:=by obtain⟨ys,R,hl,⟨⟨fn,h1,h2,h3⟩,hc⟩,hk⟩:=h;obtain⟨r1,r2⟩:=VS hs hr hl;have hJ:=hs.J;have :=hc (yR w) w (first++args.map a.eval++captured).toList ⟨hJ.1.1,λg xs hg=>dA.all hs (hJ.1.2 g xs hg)⟩ hJ.2 (λb o h=>h) r1 r2;refine⟨λf _=>Env.gi f,?_⟩;rw[Oper.semAt_eq _ _ _ (λc=>by rw[ho];simp),tQ ho hf h1 h2 h3,Oper.uponIn_enter];refine⟨λh=>(by rw[Env.kq]at h;cases h),mO (Calls.mono this ?_)⟩;rintro e w' ⟨v,r,rfl,hR,hok,hb⟩;obtain⟨⟨x,rfl,hx⟩,hk'⟩:=hk r hR;obtain⟨hgo,hk'⟩:=GA hk';have hok:oy G.bk w.heap.size w' v (.val x):=dA.Ho (bk:=kW (yR w) w.heap.size) hok hx;obtain⟨G',hg⟩:=tE hs (dst:=o.dst) hb hok hgo;exact hn _ _ _ hk' ⟨G',hg⟩
theorem wp_evClear (hs:bt E G S a w){K:aj->Prop}{x:Operand}{t:TypeId}(ho:o.op=.call ⟨.builtin .clear,#[x],#[t]⟩)(h:Mu E.C t o.dst S (S.val x) K){next:Act->World->Prop}{Q:Exit->Act->World->Prop}(hn:∀S' a' w',K S'->nO E S' a' w'->next a' w'):Bl E o a w next Q:=by
 have GG:=aT.val hs x;generalize S.val x=vx at h GG;unfold Mu at h;split at h;rename_i k bx T bM;split at h;rename_i e _ ht;have JZ:=(E.C.ok ht).slice;split at h;exact h.elim;rename_i j hj;split at h;rename_i xs hb hxs;obtain rfl:=aM hb;obtain⟨hkn,hxs⟩:=iW hxs;obtain⟨hone,N,hN,zs,rfl,hK⟩:=h;obtain⟨z,hz,Cf⟩:=(E.C.ok hj).zeroV w;have ahL:=(E.C.ok hj).len;generalize KQ:a.eval x=vv at GG;cases GG with
 |uk _ _ _ _ n' c b off p1 p2 p0 p3 p4=>
  have hxl:=(hs.cz _ _ _ _ p1 p2).2.2 xs hxs;simp only at hxl;have hn':bx+N=n':=ga p4 (hN.symm.trans hxl);obtain rfl:N=n'-bx:=oO
  have hrl:=(lF (j.zero.map FV.gv) (n'-bx)).1;have Bk:gI xs (bx*j.size) (kZ (n'-bx) (j.zero.map FV.gv))=some (xs.take (bx*j.size)++kZ (n'-bx) (j.zero.map FV.gv)):=by refine MH ?_;rw[hrl,ah,ahL,hN,bw]
  have hall:jG (kZ (n'-bx) (j.zero.map FV.gv))=true:=by
   generalize n'-bx=q;induction q with
   |zero=>rfl
   |succ q ih=>refine qO.2 λy hy=>?_;rw[kZ,aZ]at hy;exact hy.elim (λq=>qO.1 hone y q) (λq=>qO.1 ih y q)
  have oC:aT G w (.agg (kZ (n'-bx) j.zero).toArray) (.agg (kZ (n'-bx) (j.zero.map FV.gv))):=by rw[HM];exact .agg _ _ (pL (G:=G) (w:=w) _).1 (pL (G:=G) (w:=w) _).2
  obtain⟨hg,hrun⟩:=yI hs hxs p1 oC (by exact hall) (by exact Bk);have hoff:off=bx*j.size\/n'-bx=0:=by by_cases hlt:bx<c;exact .inl (p0.2 hlt);exact .inr oO
  have lU:∀ty,(Builtin.clear_ #[t] ty #[.slice (some ⟨b,off,none⟩) (n'-bx) (c-bx)]).run E.C.P w=.ok (.tuple #[]) (w.setCells b (bx*j.size) (kZ (n'-bx) j.zero)):=λty=>by rcases hoff with rfl|h0;have :=HP (P:=E.C.P) w t e ty z JZ hz b (bx*j.size) (n'-bx) (c-bx) (by rw[Cf];exact hrun);rwa[Cf]at this;rw[h0];simp[Builtin.clear_,run_underlying JZ];rfl
  have hr:(execOp a.eval o).run E.C.P w=.ok (.value (.tuple #[])) (w.setCells b (bx*j.size) (kZ (n'-bx) j.zero)):=by simp[execOp,ho,resolve,invoke,builtin,KQ,lU]
  refine wp_value hr (hn _ _ _ hK ⟨G,hg.put o.dst (v:=undef) (jB _ _)⟩)
 exact h.elim;exact h.elim;exact h.elim
theorem wp_inl (hs:bt E G S a w){call:iQ}{Y:pH}(dJ:mS E.C call)(hY:eR E Y){f:Operand}{args:Array Operand}{types:Array TypeId}{g:FuncId}{first captured:Array Value}{xs:List FV}{K:aj->Prop}(ho:o.op=.call ⟨.value f,args,types⟩)(hf:a.eval f=.func (.func g) first captured)(hr:(first++args.map a.eval++captured).toList.length=xs.length/\∀(i:Nat)(c:Value)(x:FV),(first++args.map a.eval++captured).toList[i]?=some c->xs[i]?=some x->aT G w c x)(h:Ou E.C call Y S o.dst g xs K){next:Act->World->Prop}{Q:Exit->Act->World->Prop}(hn:∀S' a' w',K S'->nO E S' a' w'->next a' w'):Bl E o a w next Q:=by
 unfold Ou at h;split at h;rename_i ob bs rest hb;unfold Yg at hb;split at hb;split at hb;rename_i vj;have hb:=au hb;injection hb with e1 e2;injection e2 with e2 e3;subst e1;subst e2;subst e3;exact wp_bld hs ho hf hr vj h hn;cases hb;cases hb;rename_i hnb;rcases h with h|((⟨hx,h⟩|h)|h)|h;obtain⟨⟨fn,h1,h2,h3⟩,hc⟩:=dJ E rfl Y g xs _ G S a w _ hs (hY.push a) h hr.1 hr.2;refine⟨λf _=>Env.gi f,?_⟩;rw[Oper.semAt_eq _ _ _ (λc=>by rw[ho];simp),tQ ho hf h1 h2 h3,Oper.uponIn_enter];refine⟨λh=>(by rw[Env.kq]at h;cases h),Po (CallsIn.mono hc ?_)⟩;rintro e w' ⟨v,x,G',S',rfl,hK,hs',hv⟩;unfold ahl at hK;split at hK;obtain⟨T,hT,hK⟩:=hK;exact hn _ _ _ hK (nO.weaken ⟨G',hs'.put o.dst hv⟩ hT);exact hn _ _ _ hK ⟨G',hs'.put o.dst hv⟩;clear hnb;split at h;rename_i x;generalize hargs:(first++args.map a.eval++captured)=vs at hr;obtain⟨vs⟩:=vs;match vs,hr with
  |[v],hr=>have hv:=hr.2 0 v x rfl rfl;refine wp_value (v:=v) (w':=w) ?_ (hn _ _ _ h ⟨G,hs.put o.dst hv⟩);have :=hx v w;simp[execOp,ho,resolve,hf,Deferred.ofValue,invoke,hargs,this]
  |[],hr=>simp at hr
  |_::_::_,hr=>simp at hr
 exact h.elim;exact wp_lentC hs ho hf hr h hn;exact wp_lend hs ho hf hr h hn;exact wp_obj hs ho hf hr h hn
theorem wp_yield (hs:bt E G S a w){Y:pH}(hY:eR E Y){f:Operand}{args:Array Operand}{types:Array TypeId}{l:Nat}{K:aj->Prop}(ho:o.op=.call ⟨.value f,args,types⟩)(hf:S.val f=.lX l)(h:Y l (args.toList.map S.val) (λv S'=>K (S'.put o.dst v)) S){next:Act->World->Prop}{Q:Exit->Act->World->Prop}(hn:∀S' a' w',K S'->nO E S' a' w'->next a' w'):Bl E o a w next Q:=by
 have hfv:=aT.val hs f;rw[hf]at hfv;generalize KQ:a.eval f=v at hfv;cases hfv with
 |lX _ k hk=>
  have hv:=tP hs args.toList;have hY':=hY E.mj [] [] E.fixed G S a w l k;simp only[gx,aW]at hY';have :=hY' _ _ _ hs hk h hv.1 hv.2;obtain⟨fn,tmps,assign,body,h1,h2⟩:=this;refine⟨λf _=>Env.gi f,?_⟩;have hrun:(execOp a.eval o).run E.C.P w=.ok (.round k fn tmps assign body) w:=by
   have he:(args.toList.map a.eval).toArray=args.map a.eval:=by apply iJ.1;rw[nU]
   rw[he]at h1;simp[execOp,ho,resolve,KQ,Deferred.ofValue,invoke,h1]
  rw[Oper.semAt_eq _ _ _ (λc=>by rw[ho];simp),hrun,Oper.uponIn_round];refine⟨λh=>(by rw[Env.kq]at h;cases h),yH (RoundIn.mono h2 ?_)⟩;rintro e w' ⟨v,x,G',S',rfl,hK,hs',hv⟩;exact hn _ _ _ hK ⟨G',hs'.put o.dst hv⟩
theorem wp_buildSlice (hs:bt E G S a w){t e:TypeId}{len:Nat}{parts:Array (Nat×Operand)}{d0:Nat}{K:aj->Prop}{sa sb:Nat}{sz:List Value}(ho:o.op=.buildSlice t len parts)(VO:o.dst=some d0)(ht:bO E.C.iZ t=some ⟨sa,sb,.slice e,sz⟩)(h:mh E.C S t len parts.toList λv=>match v with
 |.full xs=>match bO E.C.iZ e with|none=>False|some j=>wg S d0 λnm=>K ((S.kill nm).put (some d0) (.fM nm e j.size xs))
 |_=>False){next:Act->World->Prop}{Q:Exit->Act->World->Prop}(hn:∀S' a' w',K S'->nO E S' a' w'->next a' w'):Bl E o a w next Q:=by obtain⟨xs,us,e',j,⟨_,_,_,ht'⟩,hj,hK,hrun,hlen,hr⟩:=xO hs ho h;rw[ht]at ht';have :=au ht';injection this with _ _ q _;injection q with q;subst q;simp only[hj,lD]at hK;generalize hd:S.off+d0=d at hK;have Gn:Below w.heap.size w (w.alloc (.cells us e)):=(Below.refl _ _).alloc (aA _) _;have hsz:(w.alloc (.cells us e)).heap.size=w.heap.size+1:=World.size_alloc w _;have hg:=((hs.OE Gn λb o=>o<xs.length*j.size).kill d).Aa (t:=d) (B:=w.heap.size) (s:=xs.length*j.size) (e:=xs.length*j.size) (T:=e) (vu _ d) (by rw[hsz];omega) hs.kept.size ⟨_,_,World.alloc_heap_new w _,trivial⟩ (λo h=>by simp only[bf.free]at h;split at h;cases h;have :=(hs.gG o _ h).1;omega) (λt' r h=>by simp only[bf.free]at h;split at h;cases h;have :=(hs.fQ t' _ r.1 r.2.1 r.2.2 h).1;omega) (λo h=>by simp only[bf.free]at h;split at h;cases h;have :=(hs.iX.row o _ h).2.1;omega) (λi hi hi'=>oO);refine wp_value hrun ?_;rw[VO];exact hn _ _ _ hK ⟨_,hg.put (some d0) (x:=.fM d e j.size xs) (.fM d e j.size xs (some ⟨w.heap.size,0,none⟩) xs.length hr (.inr ⟨w.heap.size,0,rfl,hlen,by simp⟩))⟩
theorem wp_bytes (hs:bt E G S a w){src dst:TypeId}{x:Operand}{d0:Nat}{K:aj->Prop}{s:List UInt8}(ho:o.op=.convert src dst x)(VO:o.dst=some d0)(hx:S.val x=.p (.str s))(h:Ei E.C S src dst d0 s K){next:Act->World->Prop}{Q:Exit->Act->World->Prop}(hn:∀S' a' w',K S'->nO E S' a' w'->next a' w'):Bl E o a w next Q:=by
 unfold Ei at h;split at h
 ·rename_i e _ h1 h2;split at h
  ·rename_i by0 z0 he;rw[lD]at h;have GG:=aT.val hs x;rw[hx]at GG;have ex:=GG.jP;have hu1:=(E.C.ok h1).str;have hu2:=(E.C.ok h2).slice;have hu3:=(E.C.ok he).int;have hrun:(execOp a.eval o).run E.C.P w=.ok (.value (.slice (some ⟨w.heap.size,0,none⟩) (⟨s.toArray⟩:ByteArray).size (grownCap w (⟨s.toArray⟩:ByteArray).size 0 e))) (Lib.bytesWorld w e ⟨s.toArray⟩):=by simp[execOp,ho,ex,Lib.run_convert_string_bytes w src dst e ⟨s.toArray⟩ hu1 hu2 hu3]
   have hsz:(⟨s.toArray⟩:ByteArray).size=s.length:=by simp[ByteArray.size]
   rw[hsz]at hrun;have hcap:=grownCap_ge w s.length 0 e;generalize hc:grownCap w s.length 0 e=c at hrun hcap;have hb:Below w.heap.size w (Lib.bytesWorld w e ⟨s.toArray⟩):=⟨rfl,rfl,rfl,by rw[Lib.bytesWorld_size];omega,λk hk=>Lib.bytesWorld_at_old w e _ k hk⟩;have hcs:(Lib.bytesCells w e ⟨s.toArray⟩).size=c:=by simp[Lib.bytesCells,hc,hsz];omega
   have hnew:=Lib.bytesWorld_at_new w e ⟨s.toArray⟩;have hsize:=Lib.bytesWorld_size w e ⟨s.toArray⟩;have oC:dA (λb' o=>G.bk b' o\/(w.heap.size<=b'/\¬(b'=w.heap.size/\0+(s.map λb=>[AV.int .u8 (b.toNat:Int)]).length*1<=o/\o<0+c*1))) (Lib.bytesWorld w e ⟨s.toArray⟩) (.slice (some ⟨w.heap.size,0,none⟩) (s.map λb=>[AV.int .u8 (b.toNat:Int)]).length c) (.sl (s.map λb=>[AV.int .u8 (b.toNat:Int)])):=by
    refine .sl w.heap.size 0 c 1 _ (λi j=>.int .u8 ((s.getD i 0).toNat:Int)) (λi ys hi=>?_) (λi ys j y hi hj=>?_) (λi ys j y hi hj=>?_) (λi ys j y hi hj=>?_) (λi ys j y hi hj=>?_) (by simpa using hcap);rw[aN]at hi;obtain⟨b,-,rfl⟩:=sM.1 hi;rfl;all_goals
     rw[aN]at hi;obtain⟨b,hb,rfl⟩:=sM.1 hi;have hlt:=(aJ.1 hb).1;obtain rfl:j=0:=by
      cases j with
      |zero=>rfl
      |succ j=>simp at hj
     simp at hj;subst hj
    rfl;have :=Lib.bytesWorld_cell w e ⟨s.toArray⟩ i (by rw[hsz];exact hlt);simpa using this;refine .inr ⟨aA _,?_⟩;simp;omega;simp[List.getD,hb];exact .int _ _
   obtain⟨G',hg⟩:=tE hs (dst:=o.dst) (r:=.fresh e 1 (s.map λb=>[AV.int .u8 (b.toNat:Int)])) (v:=.slice (some ⟨w.heap.size,0,none⟩) (s.map λb=>[AV.int .u8 (b.toNat:Int)]).length c) hb ⟨some ⟨w.heap.size,0,none⟩,c,rfl,.inr ⟨w.heap.size,0,_,_,rfl,aA _,by rw[hsize];omega,λys hy=>by obtain⟨b,-,rfl⟩:=aC.1 hy;rfl,hnew,λi hi hi'=>by
    refine⟨?_,?_⟩;have hlt:i<(Lib.bytesCells w e ⟨s.toArray⟩).size:=by rw[hcs];omega
    exact⟨_,by simp[World.cell?,hnew,hlt];rfl⟩;have hlt:i<(Lib.bytesCells w e ⟨s.toArray⟩).size:=by rw[hcs];omega
    simp[World.frozen?,hnew];omega,oC⟩⟩;refine wp_value (by rw[hrun,show s.length=(s.map λb=>[AV.int .u8 (b.toNat:Int)]).length from(ah _).symm]) (hn _ _ _ ?_ ⟨G',hg⟩);rw[VO];exact h
  exact h.elim
 exact h.elim
theorem Pp (hs:bt E G S a w){t:TypeId}{x h m:Operand}{K:FV->Prop}(ho:o.op=.slice t x none (some h) (some m))(hk:RO E.C t (S.val x) (S.val h) (S.val m) K):Yields E G a w o K:=by have hx:=aT.val hs x;have hh:=aT.val hs h;have hm:=aT.val hs m;generalize S.val x=vx at hk hx;generalize S.val h=vh at hk hh;generalize S.val m=vm at hk hm;unfold RO at hk;split at hk;rename_i e _ ht;split at hk;exact hk.elim;rename_i j hj;split at hk;rename_i xs kh a0 km b0 hxs;obtain⟨rfl,rfl,hk⟩:=hk;obtain⟨ad,c,hv,-,-⟩:=(hx.elems hxs).mq;have e1:=hh.fo;have e2:=hm.fo;have hok:=E.C.ok ht;have JZ:=hok.slice;have hjs:=(E.C.ok hj).sizeOf w;refine Yields.same (v:=.slice ad 0 0) ?_ hk (.full [] ad (.TZ _ _));simp[execOp,ho,hv,e1,e2,Instr.slice,Instr.sliceAt,run_underlying JZ,Instr.sliceBounds,Instr.sliceBound,asIntOf,hjs];exact hk.elim;exact hk.elim
theorem wp_evAppN (hs:bt E G S a w){d:Nat}{K:aj->Prop}{x y:Operand}{t u:TypeId}(ho:o.op=.call ⟨.builtin .append,#[x,y],#[t,u]⟩)(hd:o.dst=some d)(hx0:S.val x=.full [])(h:Ms E.C t u d S (S.val y) K){next:Act->World->Prop}{Q:Exit->Act->World->Prop}(hn:∀S' a' w',K S'->nO E S' a' w'->next a' w'):Bl E o a w next Q:=by
 have GG:=aT.val hs x;have hy:=aT.val hs y;rw[hx0]at GG;generalize S.val y=vy at h hy;unfold Ms at h;split at h;rename_i e _ ui ht hui;have JZ:=(E.C.ok ht).slice;obtain⟨dd,YL,hsh⟩:=(E.C.ok hui).yC;split at h;exact h.elim;rename_i yM;have hdk:∀k,dd≠.int k:=λk e=>by rw[<-hsh,e]at yM;simp[shapeOf,Shape.Fj]at yM
 split at h;exact h.elim;rename_i j hj;have hok:=E.C.ok hj;split at h;rename_i ys hys hb0 hp0;have hb0:=bD hb0;have p4:0<j.size:=wL (bD hp0);obtain⟨hne,yL,hbd,h⟩:=h;rw[jH]at h;obtain⟨hdn,zs,rfl,hK⟩:=h;have hm0:0<ys.length:=nR.2 hne;obtain⟨news,n1,n2,n3⟩:=hy.items (P:=E.C.P) (e:=j.size) hys yL;generalize Pd:a.eval y=vy at hy n2 n3;generalize MI:a.eval x=vv at GG;cases GG with
 |full _ ad hr0=>
  have nl:news.length=ys.length*j.size:=n1.len;have YM:(aG ys.flatten).length=ys.length*j.size:=by rw[iR];exact fR yL
  have nr:∀(i:Nat)(z:FV),(aG ys.flatten)[i]?=some z->∃u,news[i]?=some u/\aT G w u z:=λi z hz=>by
   rw[vw]at hz;have hi:i<ys.length*j.size:=by
    rw[<-fR yL];cases hq:ys.flatten[i]?with
    |none=>rw[hq]at hz;cases hz
    |some q=>exact(aJ.1 hq).1
   have hq:i/j.size<ys.length:=CP (by rw[wJ];exact hi);have hr:i%j.size<(ys[i/j.size]).length:=by rw[yL _ (aO hq)];exact jh _ p4
   have hii:i/j.size*j.size+i%j.size=i:=Nat.div_add_mod' i j.size;have h1:=av hq;have h2:=av hr;have h3:=nD yL h1 h2;rw[hii]at h3;rw[h3]at hz;obtain rfl:=au hz;obtain⟨u,e1,e2,-⟩:=n1.at_ _ _ _ _ h1 h2;rw[hii]at e1;exact⟨u,e1,.p _ _ e2⟩
  have of':∀w',(∀b o,w'.cell? ⟨b,o,none⟩=w.cell? ⟨b,o,none⟩)->(Builtin.firstCells j.size 0 (.slice ad 0 0)).run E.C.P w'=.ok ([]:List Value).toArray w':=λw' _=>by cases ad<;>simp[Builtin.firstCells,loadCells,loadCellsFrom]
  obtain⟨rest,z,hz,qF,hrun⟩:=iM (P:=E.C.P) (w:=w) (ty:=o.type) (base:=ad) (n:=0) (c:=0) (news:=news) (olds:=[]) JZ YL hdk hok n2 n3 of' oO (by rw[de];exact hbd) hb0;have hcap:0+ys.length<=grownCap w (0+ys.length) 0 e:=grownCap_ge w _ _ _;generalize hcg:grownCap w (0+ys.length) 0 e=cap at*;have hrl:rest.size=(cap-(0+ys.length))*j.size:=by rw[qF,size_zeroCells,hz]
  have lU:(news++rest.toList).length=cap*j.size:=by simp only[ay,nl,jg,hrl,<-bw];rw[show ys.length+(cap-(0+ys.length))=cap from oO]
  generalize hnm:S.off+d=nm at hK hdn;obtain⟨G',g1,g2,g3⟩:=Ab hs.drew nm hdn (zs:=aG ys.flatten) (cells:=news++rest.toList) (s:=ys.length*j.size) (cap:=cap*j.size) (e:=e) YM lU (λi z hz=>by have hk:∀{v:Value}{z:FV},aT G w v z->aT G {w with drawn:=w.drawn+1} v z:=λh=>h.keep (λ_ _ h=>h) (λ_ _ _ _ h=>h) (λ_ _ _ _ h=>h) (λ_ _ h=>h) (λ_ _ h=>h);obtain⟨u,h2,h3⟩:=nr i z hz;have XW:=(aJ.1 h2).1;exact⟨u,by rw[cG XW];exact h2,hk h3⟩);rw[iY]at g1;have hW:w.drew.alloc (.cells (([]:List Value).toArray++news.toArray++rest) e)=({w with drawn:=w.drawn+1}:World).alloc (.cells (news++rest.toList).toArray e):=by
   have :([]:List Value).toArray++news.toArray++rest=(news++rest.toList).toArray:=by apply iJ.1;simp
   rw[this];rfl
  rw[hW]at hrun;refine wp_value (v:=.slice (some ⟨w.heap.size,0,none⟩) (0+ys.length) cap) (w':=({w with drawn:=w.drawn+1}:World).alloc (.cells (news++rest.toList).toArray e)) ?_ (hn _ _ _ hK ⟨G',?_⟩);simp[execOp,ho,resolve,invoke,builtin,MI,Pd]at hrun⊢;rw[hrun];rfl;rw[hd];exact g1.put (some d) (v:=.slice (some ⟨w.heap.size,0,none⟩) (0+ys.length) cap) (x:=.gd nm e j.size) (.gd nm e j.size (0+ys.length) cap w.heap.size g2 (by rw[de];exact g3) hcap p4)
 exact h.elim;exact h.elim
theorem tR {call:iQ}{Y:pH}(dJ:mS E.C call)(hY:eR E Y)(hs:bt E G S a w){K:aj->Prop}(h:Gk E.C call Y o K S){next:Act->World->Prop}{Q:Exit->Act->World->Prop}(hn:∀S' a' w',K S'->nO E S' a' w'->next a' w'):Bl E o a w next Q:=by
 have Sf:eH E.C S o.op (λv=>K (S.put o.dst v))->Bl E o a w next Q:=λh=>Fp hs h λx v G' w' hk hs' hv=>hn _ _ _ hk ⟨G',hs'.put o.dst hv⟩;unfold Gk at h;split at h;rename_i fn first captured hop;obtain⟨fr,h⟩:=h;obtain⟨S',h,G',hs'⟩:=yP fr h ⟨G,hs⟩;simp only[jX]at h;exact wp_of_yields hs' (xN (K:=λx=>K (S'.put o.dst x)) hs' hop h) λx v G' w' hk hs' hv=>hn _ _ _ hk ⟨G',hs'.put o.dst hv⟩;rename_i t len parts hop;split at h;rename_i d _ _ e _ hd ht;split at h;exact wp_openSlice hs hop hd ht h hn;exact wp_buildSlice hs hop hd ht h hn;exact h.elim;rename_i t hop;split at h;rename_i d i hd hi;obtain⟨z,hz,Cf⟩:=(E.C.ok hi).zeroV w;have hns:=λhdn=>CO hs d hdn i.zero (i.zero.map FV.gv) t (pL _);have hrun:(execOp a.eval o).run E.C.P w=.ok (.value (.pointer (some ⟨w.heap.size,0,none⟩))) (w.alloc (.cells i.zero.toArray t)):=by
  have :z.cells=i.zero.toArray:=by rw[<-Cf]
  simp[execOp,hop,Instr.alloc,hz,newVar,newRow,this]
 split at h;rename_i hbt hz0;obtain rfl:=aM hbt;rw[Hs]at h;obtain⟨hdn,h⟩:=h;obtain⟨G',hg,hgl,hgr⟩:=hns hdn;refine wp_value hrun (hn _ _ _ h ⟨G',?_⟩);rw[hd];have hw:(w.alloc (.cells i.zero.toArray E.C.bT)).heap[w.heap.size]?=some (.cells #[.pointer none,.slice none 0 0] E.C.bT (0,0)):=by rw[World.alloc_heap_new,hz0]
 exact hg.ahy (rest:=S.aI) rfl hgl hgr.1 hgr.2 hw;rw[jX,wh]at h;obtain⟨hdn,h⟩:=h;obtain⟨G',hg,hgl,hgr⟩:=hns hdn;refine wp_value hrun (hn _ _ _ h ⟨G',hd▸hg⟩);exact h.elim;rename_i t x hop;split at h;rename_i d i hd hi;split at h;rename_i hl;split at h;rename_i h1;rw[jX,wh]at h;obtain⟨hdn,h⟩:=h;have hx:=aT.val hs x;obtain⟨OV,-⟩:=qP hx h1;obtain⟨G',hg,-,-⟩:=CO hs d hdn (a.eval x).cells.toList (S.val x).cells t OV;refine wp_value (v:=.pointer (some ⟨w.heap.size,0,none⟩)) (w':=w.alloc (.cells (a.eval x).cells.toList.toArray t)) ?_ (hn _ _ _ h ⟨G',hd▸hg⟩);simp[execOp,hop,Instr.box,newVar,newRow];exact h.elim;exact h.elim;exact h.elim;rename_i t ad x hop;split at h;rename_i i ob off hi vj;split at h;exact h.elim;rename_i cells hcells;split at h;rename_i hl;split at h;rename_i h1;split at h;rename_i cs hcs;rw[jX]at h;have hx:=aT.val hs x;have had:=aT.val hs ad;rw[vj]at had;obtain⟨b,hv,fF⟩:=had.oU;obtain⟨hg,hrun⟩:=yI hs hcells fF hx h1 hcs;obtain⟨OV,-⟩:=qP hx h1;have hsz:(a.eval x).cells.size=i.size:=by rw[<-aM hl,<-OV.1];simp
 have hr:(execOp a.eval o).run E.C.P w=.ok .skip (w.setCells b off (a.eval x).cells.toList):=by simp[execOp,hop,hv,Instr.storeAt,Instr.sureAddr,storeVar,(E.C.ok hi).sizeOf,hsz,hrun]
 refine⟨λf _=>Env.gi f,?_⟩;rw[Oper.semAt_eq _ _ _ (λc=>by rw[hop];simp),hr];exact hn _ _ _ h ⟨G,hg.put o.dst (v:=undef) (jB _ _)⟩;exact h.elim;exact h.elim;exact h.elim;rename_i i ob base off hi vj;split at h;exact h.elim;rename_i cells hcells;split at h;rename_i hl;split at h;rename_i h1;obtain⟨A,ys,B,hmid,hA,h⟩:=h;split at h;rename_i zs hzs;rw[jX]at h;obtain⟨cs,rfl,h⟩:=h;have hx:=aT.val hs x;have had:=aT.val hs ad;rw[vj]at had;obtain⟨b,hv,fF⟩:=had.yD.oU;have hcs:gI cells (base+off) (S.val x).cells=some (A++(zs++B)):=by rw[hmid];exact CQ hA hzs
 obtain⟨hg,hrun⟩:=yI hs hcells fF hx h1 hcs;obtain⟨OV,-⟩:=qP hx h1;have hsz:(a.eval x).cells.size=i.size:=by rw[<-aM hl,<-OV.1];simp
 have hr:(execOp a.eval o).run E.C.P w=.ok .skip (w.setCells b (base+off) (a.eval x).cells.toList):=by simp[execOp,hop,hv,Instr.storeAt,Instr.sureAddr,storeVar,(E.C.ok hi).sizeOf,hsz,hrun]
 refine⟨λf _=>Env.gi f,?_⟩;rw[Oper.semAt_eq _ _ _ (λc=>by rw[hop];simp),hr];exact hn _ _ _ h ⟨G,hg.put o.dst (v:=undef) (jB _ _)⟩;exact h.elim;exact h.elim;exact h.elim;exact h.elim;rename_i t hop;split at h;rename_i d hd;exact wp_makeMap hs hop hd h hn;exact h.elim;rename_i t len cap hop;split at h;rename_i d hd;exact wp_make hs hop hd h hn;exact h.elim;rename_i t m k x hop;exact wp_upd hs (.inl hop) h hn;rename_i t m k x hop;exact wp_upd hs (.inr hop) h hn;rename_i t x lo hi mx hop;unfold Ov at h;split at h;rename_i k T bM hx;split at h;exact wp_evCutO hs hop hx h hn;exact wp_evTailO hs hop hx h hn;exact h.elim;split at h;exact wp_of_yields hs (Pp (K:=λv=>K (S.put o.dst v)) hs hop h) λx v G' w' hk hs' hv=>hn _ _ _ hk ⟨G',hs'.put o.dst hv⟩;exact Sf (by rw[hop];exact h);rename_i src ty x hop;unfold Ue at h;split at h;rename_i d _ hd;split at h;rename_i hx;exact wp_bytes hs hop hd hx h hn;exact h.elim;exact Sf (by rw[hop];exact h)
 ·rename_i c hop;obtain⟨callee,args,types⟩:=c;simp only at h;split at h;split at h;rename_i vx vy t u d hargs HT hd;obtain⟨args⟩:=args;obtain⟨types⟩:=types;simp only at hargs HT;subst HT;cases args with
  |nil=>simp at hargs
  |cons x args=>
   cases args with
   |nil=>simp at hargs
   |cons y args=>
    cases args with
    |cons z args=>simp at hargs
    |nil=>simp only[bR,fW,nS,and_true]at hargs;obtain⟨rfl,rfl⟩:=hargs;split at h;rename_i o2 T2 e2 hy2;exact wp_evAppO hs hop hd hy2 h hn;unfold RN at h;split at h;split at h;rename_i hx0;exact wp_evAppN hs hop hd hx0 h hn;exact wp_evAppend hs hop hd h hn;exact wp_evAppend hs hop hd h hn
  exact h.elim;split at h;rename_i vx t hargs HT;obtain⟨args⟩:=args;obtain⟨types⟩:=types;simp only at hargs HT;subst HT;match args,hargs with|[x],hargs=>simp only[bR,fW,nS,and_true]at hargs;rw[<-hargs]at h;exact wp_evClear hs hop h hn
  exact h.elim;exact wp_of_yields hs (yF hs hop h) λx v G' w' hk hs' hv=>hn _ _ _ hk ⟨G',hs'.put o.dst hv⟩
  ·rename_i f;have hfv:=aT.val hs f;unfold RI at h;have byC:∀{g:FuncId}{first captured:Array Value}{xs:List AV},a.eval f=.func (.func g) first captured->((first++args.map a.eval++captured).toList.length=xs.length/\∀(i:Nat)(c:Value)(x:AV),(first++args.map a.eval++captured).toList[i]?=some c->xs[i]?=some x->dA G.bk w c x)->(∃R,aq E.C g xs R/\∀r,R r->JQ S o.dst r K)->Bl E o a w next Q:=λhv hr ⟨R,hc,hk⟩=>wp_call hs hop hv hr hc λr v w' hR hb hok=>by obtain⟨hgo,hk'⟩:=GA (hk r hR);obtain⟨G',hg⟩:=tE hs (dst:=o.dst) hb hok hgo;exact hn _ _ _ hk' ⟨G',hg⟩
   split at h;rename_i g first captured hf;rw[hf]at hfv;obtain⟨fs,cs,hv,h1,h2⟩:=RY hfv;split at h;have h3:=mb (mb (yQ (G:=G) h1 rfl) (tP hs args.toList)) (yQ (G:=G) h2 rfl);exact wp_inl hs dJ hY (first:=fs.toArray) (captured:=cs.toArray) hop hv (by simpa using h3) h hn;split at h;rename_i xs hxs;have h3:=wF (wF h1 (nY (tP hs args.toList) hxs)) h2;exact byC (first:=fs.toArray) (captured:=cs.toArray) hv (by simpa using h3) h;have h3:=mb (mb (yQ (G:=G) h1 rfl) (tP hs args.toList)) (yQ (G:=G) h2 rfl);exact wp_inl hs dJ hY (first:=fs.toArray) (captured:=cs.toArray) hop hv (by simpa using h3) h hn;rename_i g first captured hf;rw[hf]at hfv;obtain⟨fs,cs,hv,h1,h2⟩:=ME hfv;have h3:=mb (mb h1 (tP hs args.toList)) h2;split at h;rename_i xs hxs;exact byC (first:=fs.toArray) (captured:=cs.toArray) hv (by simpa using nY h3 hxs) h;exact wp_inl hs dJ hY (first:=fs.toArray) (captured:=cs.toArray) hop hv (by simpa using h3) h hn;rename_i l hf;exact wp_yield hs hY hop hf h hn;exact h.elim
  exact h.elim
 exact Sf h
theorem sN (hs:bt E G S a w){ops:Array Oper}{j d:Nat}{b:Bool}(hd:(ops[j]?).bind (·.dst)=some d)(hg:S.get d=.p (.bool b)):yielded ops a.tmps j=some b:=by
 have h:=aT.get hs d;rw[hg]at h;have h:=h.nB;unfold yielded;rw[hd];have hlt:d<a.tmps.size:=by rw[hs.size];unfold aj.get at hg;split at hg;rename_i hb;simpa using hb;cases hg
 simp only[nW];rw[sL hlt];simp only[Array.getD,hlt,dite_true]at h;change a.tmps[d]=_ at h;rw[h]
theorem rH (hs:bt E G S a w){ops:Array Oper}{j d:Nat}(hd:(ops[j]?).bind (·.dst)=some d)(hg:S.get d=.p (.eW [])):yielded ops a.tmps j=none:=by have h:=aT.get hs d;rw[hg]at h;have h:=h.VG;unfold yielded;rw[hd];simp only[nW];by_cases hlt:d<a.tmps.size;rw[sL hlt];simp only[Array.getD,hlt,dite_true]at h;change a.tmps[d]=_ at h;rw[h];rfl;rw[CU oO]
theorem Fu {call:iQ}{Y:pH}(dJ:mS E.C call)(hY:eR E Y){ops:Array Oper}{K:aj->Prop}{Q:Exit->Act->World->Prop}(hQ:∀S' a' w',K S'->nO E S' a' w'->Q .normal a' w'):∀(l:List Oper)(S:aj)(a:Act)(w:World),pI E.C call Y ops l K S->nO E S a w->wpListIn E.jb 0 E.C.P ops Q l a w:=by
 intro l;induction l with
 |nil=>intro S a w h hs;exact wpListIn_nil (hQ _ _ _ h hs)
 |cons o l ih=>intro S a w h hs;obtain⟨G,hs⟩:=hs;simp only[pI]at h;refine wpListIn_step λK' Bq=>?_;split at h;rename_i hg;rw[ag (by simp[Region.wanted,hg])];exact tR dJ hY hs h λS' a' w' hk hs'=>Bq _ _ (ih _ _ _ hk hs');rename_i j want hg;split at h;exact h.elim;rename_i d hd;split at h;rename_i b hb;have hy:=sN hs hd hb;split at h;rename_i Ec;rw[oH]at Ec;rw[ag (by simp[Region.wanted,hg,hy,beq_iff_eq.1 Ec])];exact tR dJ hY hs h λS' a' w' hk hs'=>Bq _ _ (ih _ _ _ hk hs');rename_i Ec;rw[oH]at Ec;rw[af (by simp[Region.wanted,hg,hy];exact wP.1 Ec)];exact⟨λf _=>Env.gi f,Bq _ _ (ih _ _ _ h ⟨G,hs.put o.dst (jB G w)⟩)⟩;rename_i hb;have hy:=rH hs hd hb;rw[af (by simp[Region.wanted,hg,hy])];exact⟨λf _=>Env.gi f,Bq _ _ (ih _ _ _ h ⟨G,hs.put o.dst (jB G w)⟩)⟩;exact h.elim
structure Off (ds:List Nat)(S S':aj):Prop where
 n:S'.n=S.n
 off:S'.off=S.off
 bK:S'.bK=S.bK
 cF:S'.cF=S.cF
 cT:S'.cT=S.cT
 aI:S'.aI=S.aI
 maps:S'.maps=S.maps
 je:S'.je=S.je
 tmps:∀i,gM i ds=false->S'.tmps i=S.tmps i
theorem Off.put {ds:List Nat}{S S':aj}(h:Off ds S S'){dst:Option Nat}(hd:∀d,dst=some d->d∈ds)(v:FV):Off ds S (S'.put dst v):=by
 cases dst with
 |none=>exact h
 |some d=>
  refine⟨h.n,h.off,h.bK,h.cF,h.cT,h.aI,h.maps,h.je,λi hi=>?_⟩;simp only[aj.put];have hne:i≠d:=λe=>by have :=oJ.2 (hd d rfl);rw[<-e,hi]at this;cases this
  have :Nat.beq i d=false:=by cases hb:Nat.beq i d;rfl;exact absurd (aM hb) hne
  rw[this];exact h.tmps i hi
theorem Up {C:Ctx}{ops:Array Oper}{ds:List Nat}{S0:aj}:∀(l:List Oper)(K:aj->Prop)(S:aj),(∀o,o∈l->∀d,o.dst=some d->d∈ds)->Off ds S0 S->Hv C ops l K S->Hv C ops l (λS'=>K S'/\Off ds S0 S') S:=by
 intro l;induction l with
 |nil=>intro K S _ ho h;exact⟨h,ho⟩
 |cons o l ih=>
  intro K S hl ho h;have hd:=hl o iN;have hl':=λo' ho'=>hl o' (cR _ ho');simp only[Hv]at h⊢;split at h;rename_i hg;obtain⟨v,h1,h2⟩:=h;try simp only[hg]
  exact⟨v,h1,ih _ _ hl' (ho.put hd v) h2⟩;rename_i j want hg;try simp only[hg]
  split at h;exact h.elim;rename_i d hdj;try simp only[hdj]
  split at h;rename_i b hb;first|rw[hb]|skip
  cases hsb:Hu b want with
  |true=>simp only[hsb]at h⊢;obtain⟨v,h1,h2⟩:=h;exact⟨v,h1,ih _ _ hl' (ho.put hd v) h2⟩
  |false=>simp only[hsb]at h⊢;exact ih _ _ hl' (ho.put hd _) h
  rename_i hb;first|rw[hb]|skip
  exact ih _ _ hl' (ho.put hd _) h;exact h.elim
theorem Ev {K:FV->Prop}(hs:bt E G S a w){v:FV}(h:eH E.C S o.op λu=>u=v){next:Act->World->Prop}{Q:Exit->Act->World->Prop}(hn:∀a' w',nO E (S.put o.dst v) a' w'->next a' w'):Bl E o a w next Q:=Fp hs h λx u G' w' hk hs' hv=>hn _ _ ⟨G',by subst hk;exact hs'.put o.dst hv⟩
theorem VT {ops:Array Oper}{K:aj->Prop}{Q:Exit->Act->World->Prop}(hQ:∀S' a' w',K S'->nO E S' a' w'->Q .normal a' w'):∀(l:List Oper)(S:aj)(a:Act)(w:World),Hv E.C ops l K S->nO E S a w->wpListIn E.jb 0 E.C.P ops Q l a w:=by
 intro l;induction l with
 |nil=>intro S a w h hs;exact wpListIn_nil (hQ _ _ _ h hs)
 |cons o l ih=>intro S a w h hs;obtain⟨G,hs⟩:=hs;simp only[Hv]at h;refine wpListIn_step λK' Bq=>?_;split at h;rename_i hg;rw[ag (by simp[Region.wanted,hg])];obtain⟨v,h1,h2⟩:=h;exact Ev (K:=λ_=>True) hs h1 λa' w' hs'=>Bq _ _ (ih _ _ _ h2 hs');rename_i j want hg;split at h;exact h.elim;rename_i d hd;split at h;rename_i b hb;have hy:=sN hs hd hb;split at h;rename_i Ec;rw[oH]at Ec;rw[ag (by simp[Region.wanted,hg,hy,beq_iff_eq.1 Ec])];obtain⟨v,h1,h2⟩:=h;exact Ev (K:=λ_=>True) hs h1 λa' w' hs'=>Bq _ _ (ih _ _ _ h2 hs');rename_i Ec;rw[oH]at Ec;rw[af (by simp[Region.wanted,hg,hy];exact wP.1 Ec)];exact⟨λf _=>Env.gi f,Bq _ _ (ih _ _ _ h ⟨G,hs.put o.dst (jB G w)⟩)⟩;rename_i hb;have hy:=rH hs hd hb;rw[af (by simp[Region.wanted,hg,hy])];exact⟨λf _=>Env.gi f,Bq _ _ (ih _ _ _ h ⟨G,hs.put o.dst (jB G w)⟩)⟩;exact h.elim
theorem bh.refl (x:FV):bh x x:=λ_ _ _ h=>h
theorem bh.dR (x:FV):bh x .dR:=λ_ _ _ _=>.dR _
theorem Pq {K:aj->Prop}{S':aj}:∀(rs:List Nat)(T:aj)(φ:List FV->Prop),Hx K T rs φ->φ (getAll S' rs)->cK S' T->∃T',K T'/\cK S' T':=by
 intro rs;induction rs with
 |nil=>intro T φ h hφ hw;exact⟨T,h.out hφ,hw⟩
 |cons r rs ih=>intro T φ h hφ hw;refine ih _ _ (h.out (S'.get r)) hφ ⟨hw.n,hw.off,hw.cF,hw.cT,hw.bK,λi=>?_,hw.aI,hw.maps,hw.je⟩;simp only[aj.put];split;rename_i hb;obtain rfl:=aM hb;unfold aj.get;split;exact bh.refl _;exact bh.dR _;exact hw.tmps i
theorem Off.weaken {ds:List Nat}{S S':aj}(h:Off ds S S'):cK S' (S.Bg ds):=by
 refine⟨h.n.symm,h.off.symm,h.cF.symm,λo bs q=>⟨by rw[h.cT];exact q,λq2=>by show Qv.getObj S.aI o=none;rw[<-h.aI];exact q2⟩,⟨by show S.bK.length=_;rw[h.bK],λi f f' h1 h2=>by have h2':S.bK[i]?=some f':=h2;rw[h.bK,h2']at h1;obtain rfl:=au h1;exact⟨rfl,rfl,λ_=>bh.refl _⟩⟩,λi=>?_,λo ys ho=>?_,λo l hl=>?_,λq x hx=>by rw[h.je];exact hx⟩;simp only[aj.Bg];cases hm:gM i ds with
 |true=>exact bh.dR _
 |false=>simp only;rw[h.tmps i hm];exact bh.refl _
 rw[h.aI];exact⟨ys,ho,rfl,λi x y hx hy=>by rw[hx]at hy;obtain rfl:=au hy;exact bh.refl _⟩;rw[h.maps];exact⟨l,hl,rfl,λi p p' h1 h2=>by rw[h1]at h2;obtain rfl:=au h2;exact⟨rfl,bh.refl _⟩⟩
theorem Sg {l:List Oper}{o:Oper}(h:o∈l){d:Nat}(hd:o.dst=some d):d∈dstsOf l:=by
 induction l with
 |nil=>cases h
 |cons p l ih=>simp only[dstsOf];rcases aK.1 h with rfl|h;rw[hd];exact iN;split;exact cR _ (ih h);exact ih h
end
end Qv
