/- Part 4 of the proof: its lemmas. No condition. -/
import Derived.Test.YtiboombocnfngaaGreatDoorW3
import Derived.WideKeyEntry
import Derived.Lib.ConvBytes
import Derived.Laws.MakeOwn
set_option maxRecDepth 10000
set_option maxHeartbeats 80000000
set_option linter.all false
namespace Qv
open Go Go.RowKit
theorem Qo {α:Type}{d o:Nat}{x:α}(hne:o≠d):∀{l:List (Nat×α)},getM l o=some x->getM (Bd d l) o=some x:=by
 intro l;induction l with
 |nil=>intro h;cases h
 |cons p l ih=>obtain⟨u,i⟩:=p;intro h;simp only[getM]at h;simp only[Bd];split at h;rename_i hb;obtain rfl:=aN hb;split;simp_all;simp only[getM,jI];omega;rename_i hb;split;simp_all;simp only[getM,hb];simp_all
def Env.Qp (E:Env)(ob:Nat):Env:=⟨E.C.open {E.C.ex with Nk:=Bd ob E.C.ex.Nk},E.w0,E.EM,E.hJ,E.hn,E.mD,E.bM,E.loops,E.fixed,E.own,E.hown,E.sg,E.rows,E.CQ,E.hrows⟩
section
variable {E:Env}{G:bl}{S:an}{a:Act}{w:World}{o:Oper}
theorem bA.Qp (h:bA E G S a w)(ob:Nat):bA (E.Qp ob) G S a w:=have hm:=h.ext'.mps;⟨h.kept,h.size,⟨⟨hm.at_,hm.loc,hm.inj,hm.jD,hm.Bm,hm.Bn,hm.apart,λo T z k l b gL es q1 q2=>hm.room o T z k l b gL es q1 (qj q2).2⟩,h.ext'.lR,h.ext'.bM,h.ext'.kP,h.ext'.loops,h.ext'.lS,h.ext'.yl,h.ext'.mD,h.ext'.marks,h.ext'.Be⟩,⟨h.jr.at_,h.jr.row,h.jr.dx⟩,h.nS,h.fJ,h.tmps,h.aK,h.gW,h.fq,h.cL,h.gv,h.ew⟩
theorem bA.agC {ob:Nat}(h:bA (E.Qp ob) G S a w)(hr:∀(T:TypeId)(z:Nat)(k:Option AV)(l:List (AV×FV))(b gL:Nat)(es:List MapEntry),getM S.maps ob=some l->getM E.C.ex.Nk ob=some (T,z,k)->G.mp ob=some b->w.heap[b]?=some (.map es.toArray gL)->∀(i:Nat)(e:MapEntry)(p:AV×FV),es[i]?=some e->l[i]?=some p->k≠some p.1->EN G T z ob e):bA E G S a w:=have hm:=h.ext'.mps;⟨h.kept,h.size,⟨⟨hm.at_,hm.loc,hm.inj,hm.jD,hm.Bm,hm.Bn,hm.apart,λo T z k l b gL es q1 q2=>by by_cases e:o=ob;grind;exact hm.room o T z k l b gL es q1 (Qo e q2)⟩,h.ext'.lR,h.ext'.bM,h.ext'.kP,h.ext'.loops,h.ext'.lS,h.ext'.yl,h.ext'.mD,h.ext'.marks,h.ext'.Be⟩,⟨h.jr.at_,h.jr.row,h.jr.dx⟩,h.nS,h.fJ,h.tmps,h.aK,h.gW,h.fq,h.cL,h.gv,h.ew⟩
theorem bA.Qq (hs:bA E G S a w)(q:Nat×Nat)(hq:getM E.C.ex.Nk q.1=none):bA E {G with tail:=λt=>if t=.inr q then none else G.tail t} S a w:=by have up:∀v x,aU G w v x->aU {G with tail:=λt=>if t=.inr q then none else G.tail t} w v x:=λv x h=>h.keep (λ_ _ h=>h) (λ_ _ _ _ h=>h) (.refl _ _) (λ_ _ h=>h) (λt r h=>by simp_all);have hm:=hs.ext'.mps;refine⟨hs.kept,hs.size,⟨⟨λo l ho=>?_,hm.loc,hm.inj,hm.jD,hm.Bm,hm.Bn,hm.apart,λo T z k l b gL es q1 q2 q3 q4 i e p q5 q6 q7=>?_⟩,hs.ext'.lR,λi vals fr h1 h2=>?_,hs.ext'.kP,hs.ext'.loops,hs.ext'.lS,hs.ext'.yl,hs.ext'.mD,hs.ext'.marks,hs.ext'.Be⟩,hs.jr.keep rfl rfl (λo bs q=>⟨q,rfl,rfl⟩) (λ_ _ _ q=>q) (λ_ _ e=>e) (aB _) (λ_ _ _ _ _ _=>rfl) (λ_ _ _=>rfl) (λ_ _ _ _ e=>e) (λ_ _ _ _ e=>e) (λo r t z _ e=>?_),hs.nS,hs.fJ,λi hi=>up _ _ (hs.tmps i hi),λo cells ho=>?_,hs.gW,hs.fq,λo t b r h h'=>?_,λt b s e T h=>?_,λt t' b r r' h h'=>?_⟩;obtain⟨b,gL,es,h1,h2,h3,h4,h5⟩:=hm.at_ o l ho;grind;obtain⟨ad,n,c,g1,g2⟩:=hm.room o T z k l b gL es q1 q2 q3 q4 i e p q5 q6 q7;refine⟨ad,n,c,g1,g2.imp id λ⟨b2,off,g3,g4⟩=>⟨b2,off,g3,?_⟩⟩;grind;obtain⟨h3,h4⟩:=hs.ext'.bM i vals fr h1 h2;simp_all;grind;obtain⟨b,h1,h2⟩:=hs.aK o cells ho;grind;simp only at h';split at h';grind;exact hs.cL o t b r h h';simp only at h;split at h;grind;exact hs.gv t b s e T h;simp only at h h';split at h;grind;split at h';grind;exact hs.ew t t' b r r' h h'
theorem bA.ZQ (hs:bA E G S a w){b s0:Nat}{news:List Value}(hlt:b<w.heap.size)(hw0:E.w0.heap.size<=b)(hty:∃cs T fr,w.heap[b]?=some (.cells cs T fr))(hfree:∀i,s0<=i->i<s0+news.length->¬G.br b i)(fZ:∀o,G.loc o≠some b)(hrow:∀o,G.row o≠some b)(Vs:∀t r,G.tail t≠some (b,r)):bA E {G with br:=λb' o=>G.br b' o\/(b'=b/\s0<=o/\o<s0+news.length)} S a (w.setCells b s0 news)/\(∀b' i c,G.br b' i->w.cell? ⟨b',i,none⟩=some c->(w.setCells b s0 news).cell? ⟨b',i,none⟩=some c):=by
 obtain⟨tcs,tT,tfr,tty⟩:=hty;have hcell:∀b' i c,G.br b' i->w.cell? ⟨b',i,none⟩=some c->(w.setCells b s0 news).cell? ⟨b',i,none⟩=some c:=λb' i c hi hc=>by rw[World.cell?_setCells_out b news s0 w ⟨b',i,none⟩ (λe _=>by grind)];omega
 have hout:∀b2 i,b2≠b->(w.setCells b s0 news).cell? ⟨b2,i,none⟩=w.cell? ⟨b2,i,none⟩:=λb2 i hne=>World.cell?_setCells_out b _ s0 w ⟨b2,i,none⟩ (λe=>absurd e hne);have hfz:∀x,(w.setCells b s0 news).frozen? x=w.frozen? x:=λx=>World.frozen?_setCells b _ s0 w x;have hsz:=jQ b news s0 w;have up:∀v x,aU G w v x->aU {G with br:=λb' o=>G.br b' o\/(b'=b/\s0<=o/\o<s0+news.length)} (w.setCells b s0 news) v x:=λv x hv=>hv.keep (λ_ _ h=>.inl h) hcell ((gy.setCells b _ _ _).qf _) (λ_ _ h=>h) (λ_ _ h=>h);have HY:mj (λx=>x) G {G with br:=λb' o=>G.br b' o\/(b'=b/\s0<=o/\o<s0+news.length)} S S w:=⟨λ_=>rfl,λo l' h=>⟨l',h,(Nz l').symm,λb hb=>hb⟩,λq x h=>⟨h,λr hr=>hr⟩,λo b h=>h,λo b h=>h,λb' i es n hb _ h=>h.elim id λh=>by simp_all,λ_ h=>.inl h,λ_ _ h=>.inl h,λ_ _ h=>h⟩;refine⟨⟨hs.kept.setCells (.inl hw0) _ _,hs.size,hs.ext'.keep rfl rfl rfl up (.setCells _ _ _ _) (HY:=HY),?_,?_,?_,λi hi=>up _ _ (hs.tmps i hi),λo cells ho=>?_,λo b' ho=>?_,hs.fq,hs.cL,λt b' s e T' h=>?_,hs.ew⟩,hcell⟩;refine hs.jr.keep rfl rfl (λo bs q=>⟨q,rfl,rfl⟩) (λ_ _ _ q=>q) (λ_ _ e=>e) oO (λo bs b2 q q2 e=>iA _ _ _ _ _ (λe2=>fZ o (e2▸e))) (λo r e=>iA _ _ _ _ _ (λe2=>hrow o (e2▸e))) (λo r i e hi=>?_) (λ_ _ _ _ e=>e) (λ_ _ t q _ e=>⟨t,q,e⟩);grind;rintro b' o (h|⟨rfl,-,-⟩);exact hs.nS b' o h;omega;rintro b' o (h|⟨rfl,-,-⟩);rw[hsz];exact hs.fJ b' o h;omega;obtain⟨b',h1,h2⟩:=hs.aK o cells ho;grind;obtain⟨k1,k2,k3⟩:=hs.gW o b' ho;grind;obtain⟨k1,k2,kt,k3⟩:=hs.gv t b' s e T' h;have hb:b'≠b:=λe'=>Vs t _ (e'▸h);refine⟨oO,k2,jR _ _ _ _ _ _ kt,λi hi hi'=>?_⟩;simp_all
theorem Qr (hs:bA E G S a w){q:Nat×Nat}(hq:getM E.C.ex.Nk q.1=none){xs ys:List (List AV)}{ad:Option Addr}{c:Nat}{yv:Value}{t u elem ty:TypeId}{dd:TypeDesc}{i:jV}{news:List Value}(ht:E.C.P.underlying t=some (.slice elem))(hu:E.C.P.underlying u=some dd)(hd:∀k,dd≠.int k)(hi:gj E.C.P elem i)(hx:dH G.br w (.slice ad xs.length c) (.sl xs))(KC:∀zs,zs∈xs->zs.length=i.size)(zv:∀zs,zs∈ys->zs.length=i.size)(hle:xs.length<=c)(hroom:(xs.length=0/\c=0)\/∃b off,(ad=some ⟨b,off,none⟩/\off=0)/\G.tail (.inr q)=some (b,off+xs.length*i.size,off+c*i.size,elem))(hn:Flat G.br w i.size ys news)(hl:(Builtin.lenOf yv).run E.C.P w=.ok ys.length w)(hf:∀w',(∀b o,w'.cell? ⟨b,o,none⟩=w.cell? ⟨b,o,none⟩)->(Builtin.firstCells i.size ys.length yv).run E.C.P w'=.ok news.toArray w')(hb:(xs.length+ys.length)*i.bytes<=2^47)(hb0:i.bytes≠0):∃ad' c' w' G',(Builtin.append_ #[t,u] ty #[.slice ad xs.length c,yv]).run E.C.P w=.ok (.slice ad' (xs++ys).length c') w'/\bA E G' S a w'/\dH G'.br w' (.slice ad' (xs++ys).length c') (.sl (xs++ys))/\(((xs++ys).length=0/\c'=0)\/∃b off,(ad'=some ⟨b,off,none⟩/\off=0)/\G'.tail (.inr q)=some (b,off+(xs++ys).length*i.size,off+c'*i.size,elem))/\(∀q' r,q'≠q->G.tail (.inr q')=some r->G'.tail (.inr q')=some r)/\G'.mp=G.mp/\gy w w':=by
 by_cases h0:ys=[];subst h0;have hnews:news=[]:=ck.1 (by rw[hn.len];simp);subst hnews;have hrun:=mZ (P:=E.C.P) (w:=w) (ty:=ty) (base:=ad) ht hu hd hi hl (hf w λ_ _=>rfl) hle;refine⟨ad,c,w,G,by simp_all,hs,by simp_all,by simp_all,λ_ _ _ h=>h,rfl,.refl _⟩;have hm:0<ys.length:=qh.2 h0;have hlen:(xs++ys).length=xs.length+ys.length:=aA;by_cases hc:xs.length+ys.length<=c;rcases hroom with hroom|⟨b,off,⟨rfl,hoff⟩,Vs⟩;omega;obtain⟨t1,t2,tt,t3⟩:=hs.gv _ _ _ _ _ Vs;have hqe:off+xs.length*i.size+news.length<=off+c*i.size:=by have :=fG i.size hc;rw[bK]at this;rw[hn.len];omega
 have hrun:=od (P:=E.C.P) (w:=w) (ty:=ty) (b:=b) (off:=off) ht hu hd hi hl (hf w λ_ _=>rfl) hc (λj hj=>by obtain⟨⟨u,hu⟩,-,-⟩:=t3 (off+xs.length*i.size+j) oO oO;simp_all) (λj hj=>(t3 (off+xs.length*i.size+j) oO oO).2.1) hn.one;have afO:∀o,G.loc o≠some b:=λo h=>by have :=(hs.cL o _ b _ h Vs).1;simp_all
 have LF:∀o,G.row o≠some b:=λo h=>(hs.jr.row o b h).2.2.2.2.1 _ _ Vs;have hs1:=hs.Qq q hq;have aiw:∀t r,({G with tail:=λt=>if t=.inr q then none else G.tail t}:bl).tail t≠some (b,r):=λt r h=>by simp only at h;split at h;grind;rename_i hne;exact hne (hs.ew t _ b _ _ h Vs)
 obtain⟨f1,f3⟩:=hs1.ZQ (news:=news) (s0:=off+xs.length*i.size) t1 t2 (let⟨cs,fr,h,_⟩:=tt;⟨cs,_,fr,h⟩) (λj h1 h2=>(t3 j h1 oO).2.2) afO LF aiw;have hg:=f1.AH (t:=.inr q) (B:=b) (s:=off+xs.length*i.size+news.length) (e:=off+c*i.size) (T:=elem) (by simp) (by rw[jQ];omega) t2 (jR _ _ _ _ _ _ tt) afO aiw LF (λj hj hj'=>by obtain⟨⟨u,hu⟩,g2,g3⟩:=t3 j oO oO;refine⟨⟨u,?_⟩,by rw[World.frozen?_setCells];omega,?_⟩;rw[World.cell?_setCells_out b news _ w ⟨b,j,none⟩ (λ_ _=>by simp_all)];omega;simp_all);refine⟨_,c,_,_,by simp_all,hg,?_,.inr ⟨b,off,⟨rfl,hoff⟩,?_⟩,λq' r hne h=>?_,rfl,.setCells _ _ _ _⟩;refine zu oO (λzs hz=>(bk.1 hz).elim (KC zs) (zv zs)) λp zs j z hp hj=>?_;have hjl:j<i.size:=by have h1:=(aI.1 hj).1;have h2:zs∈xs++ys:=bW hp;rw[(bk.1 h2).elim (KC zs) (zv zs)]at h1;exact h1
 rw[xy]at hp;by_cases EC:p<xs.length;rw[ag EC]at hp;obtain⟨_,_,hv,-,hne⟩:=hx.lG;obtain⟨b2,off2,bP,cell,rfl,g1,g2⟩:=hne (λe=>by simp_all);injection hv with e1 e2 e3;have e1:=aq e1;injection e1 with q1 q2;subst q1;subst q2;obtain rfl:bP=i.size:=(g1 p _ hp).symm.trans (KC _ (bW hp));obtain⟨k1,k2,k3,k4⟩:=g2 _ _ _ _ hp hj;rw[fL]at k2 k3;exact⟨_,k1,f3 _ _ _ k3 k2,.inl k3,k4.keep (λ_ _ h=>.inl h) f3 ((gy.setCells b _ _ _).qf _)⟩;rw[af EC]at hp;obtain⟨u,k1,k2,k3⟩:=hn.at_ _ _ _ _ hp hj;have YT:(p-xs.length)*i.size+j<news.length:=(aI.1 k1).1;have ZJ:off+(p*i.size+j)=off+xs.length*i.size+((p-xs.length)*i.size+j):=by
  have :p=xs.length+(p-xs.length):=oO
  have h2:p*i.size=xs.length*i.size+(p-xs.length)*i.size:=by rw[<-bK,<-this]
  omega
 have hin:=World.cell?_setCells_in b news (off+xs.length*i.size) w (λq NJ=>by obtain⟨⟨u,hu⟩,-,-⟩:=t3 (off+xs.length*i.size+q) oO oO;simp_all) _ YT;refine⟨u,k3,?_,.inr ⟨rfl,oO,oO⟩,k2.keep (λ_ _ h=>.inl h) f3 ((gy.setCells b _ _ _).qf _)⟩;simp_all;simp only[if_true];rw[hn.len,hlen,bK,fL];simp_all;obtain⟨olds,LC,-,ZK⟩:=xq (P:=E.C.P) hx KC;obtain⟨rest,z,hz,qX,hrun⟩:=iZ (P:=E.C.P) (w:=w) (ty:=ty) (base:=ad) (news:=news) (olds:=olds) ht hu hd hi hl hf ZK hc hb hb0;have hcap:xs.length+ys.length<=grownCap w (xs.length+ys.length) c elem:=grownCap_ge w _ _ _;generalize hcg:grownCap w (xs.length+ys.length) c elem=cap at*;generalize hW:w.drew.alloc (.cells (olds.toArray++news.toArray++rest) elem)=W at*;have GR:Below w.drew.heap.size w.drew W:=by rw[<-hW];exact(Below.refl _ _).alloc (aB _) _
 have hWs:W.heap.size=w.heap.size+1:=by rw[<-hW];simp
 have hrl:rest.size=(cap-(xs.length+ys.length))*i.size:=by rw[qX,size_zeroCells,hz]
 have hcell:∀q,W.cell? ⟨w.heap.size,q,none⟩=(olds.toArray++news.toArray++rest)[q]?:=λq=>by rw[<-hW];exact World.cell?_alloc_new w.drew _ elem q
 have hfz:∀q,W.frozen? ⟨w.heap.size,q,none⟩=false:=λq=>by rw[<-hW];exact World.frozen?_alloc_new w.drew _ elem q
 have hold:∀b q,b<w.heap.size->W.cell? ⟨b,q,none⟩=w.cell? ⟨b,q,none⟩:=λb q hlt=>by rw[<-hW];exact World.cell?_alloc_lt w.drew _ ⟨b,q,none⟩ hlt
 have h1:=(hs.drew.PK (w':=W) GR (λb q=>b=w.heap.size/\q<(xs.length+ys.length)*i.size)).Qq q hq;have hg:=h1.AH (t:=.inr q) (B:=w.heap.size) (s:=(xs.length+ys.length)*i.size) (e:=cap*i.size) (T:=elem) (by simp) oO hs.kept.size (by rw[<-hW];exact⟨_,_,World.alloc_heap_new w.drew _,rfl⟩) (λo h=>by have :=(hs.gW o _ h).1;omega) (λt' r h=>by simp only at h;split at h;grind;have :=(hs.gv t' _ r.1 r.2.1 r.2.2 h).1;omega) (λo h=>by have :=(hs.jr.row o _ h).2.1;omega) (λq hq NJ=>by
  refine⟨?_,hfz q,?_⟩;rw[hcell q];have :q<(olds.toArray++news.toArray++rest).size:=by simp only[Array.size_append,List.size_toArray,LC.len,hn.len,hrl,<-bK];rw[show xs.length+ys.length+(cap-(xs.length+ys.length))=cap from oO];exact NJ
  simp_all;rintro(h|⟨-,-,-,h⟩);have :=hs.fJ _ _ h;omega;omega);have NP:gy w W:=λk o hk ho=>by rw[GR.block k (bz.1 hk).1];exact hk
 refine⟨_,cap,W,_,by simp_all,hg,?_,.inr ⟨w.heap.size,0,⟨rfl,rfl⟩,by simp_all⟩,λq' r hne h=>?_,rfl,NP⟩;have hkeep:∀{u:Value}{z:AV},dH G.br w u z->dH (λb o=>G.br b o\/(w.drew.heap.size<=b/\b<W.heap.size/\b=w.heap.size/\o<(xs.length+ys.length)*i.size)) W u z:=λh=>h.keep (λ_ _ h=>.inl h) (λb o c hi hc=>by rw[hold b o (hs.fJ b o hi)];omega) (λb es n hi hb=>(GR.block b (hs.fJ b 0 hi)).trans hb);refine zu oO (λzs hz=>(bk.1 hz).elim (KC zs) (zv zs)) λp zs j z hp hj=>?_;have hjl:j<i.size:=by have h1:=(aI.1 hj).1;have h2:zs∈xs++ys:=bW hp;rw[(bk.1 h2).elim (KC zs) (zv zs)]at h1;exact h1
 have EC:p<xs.length+ys.length:=by rw[<-hlen];exact(aI.1 hp).1
 have agx:p*i.size+j<(xs.length+ys.length)*i.size:=by have :(p+1)*i.size<=(xs.length+ys.length)*i.size:=fG _ EC;rw[bK]at this;omega
 rw[dF];have CU:(λb o=>G.br b o\/(w.drew.heap.size<=b/\b<W.heap.size/\b=w.heap.size/\o<(xs.length+ys.length)*i.size)) w.heap.size (p*i.size+j):=.inr ⟨aB _,oO,rfl,agx⟩;rw[xy]at hp;by_cases ZL:p<xs.length;rw[ag ZL]at hp;obtain⟨u,k1,k2,k3⟩:=LC.at_ _ _ _ _ hp hj;have YT:=(aI.1 k1).1;refine⟨u,k3,?_,CU,hkeep k2⟩;grind;rw[af ZL]at hp;obtain⟨u,k1,k2,k3⟩:=hn.at_ _ _ _ _ hp hj;have YT:=(aI.1 k1).1;have ZJ:p*i.size+j=olds.length+((p-xs.length)*i.size+j):=by
  have :p=xs.length+(p-xs.length):=oO
  have h2:p*i.size=xs.length*i.size+(p-xs.length)*i.size:=by rw[<-bK,<-this]
  rw[LC.len];omega
 refine⟨u,k3,?_,CU,hkeep k2⟩;rw[hcell,tn (by simp_all),NK (by simp_all),ZJ];simp[k1];simp_all
theorem FX {b:Nat}{o:Obj}(h:w.heap[b]?=some o):w.putObj b o=w:=by
 obtain⟨hl,he⟩:=bz.1 h;unfold World.putObj;have :w.heap.setIfInBounds b o=w.heap:=by apply Array.ext_getElem?;intro i;rw[NQ];split;simp_all;rfl
 rw[this]
theorem WS {P:Program}{t kT eT:TypeId}(hu:P.underlying t=some (.map kT eT)){L:List gZ}(hL:fB P 40 kT=some L){k:AV}(hk:iJ (iw P kT) L k=true){b gL:Nat}{es:List MapEntry}(hb:w.heap[b]?=some (.map es.toArray gL)){ks:List AV}(hks:tf (iw P kT) L es ks){z:Value}(hz:∀w,(zeroValue eT).run P w=.ok z w):match iL k ks with|some j=>∃e0,es[j]?=some e0/\e0.key=tv (iw P kT) k.cells/\(Instr.mapEntry t (.map (some b)) (tv (iw P kT) k.cells)).run P w=.ok (.tuple #[e0.val,.int .i64 (e0.born:Int)]) w|none=>(Instr.mapEntry t (.map (some b)) (tv (iw P kT) k.cells)).run P w=.ok (.tuple #[z,.int .i64 (gL:Int)]) (w.putObj b (.map (es++[({key:=tv (iw P kT) k.cells,val:=z,born:=gL}:MapEntry)]).toArray (gL+1))):=by
 have NH:=(td (P:=P) (em:=false) 40).1 kT L 10000 w k.cells dD hL (mo hk);have hfind:=wZ (w:=w) dD hL hk hks;have hg:(Go.getObj b).run P w=.ok (.map es.toArray gL) w:=by simp[Go.getObj,Sem.run,hb]
 have BO:∀o',(Go.setObj b o').run P w=.ok () (w.putObj b o'):=λo'=>by simp[Go.setObj,Sem.run,hb,World.putObj]
 cases fZ:iL k ks with
 |none=>
  rw[fZ]at hfind;have he:(es++[({key:=tv (iw P kT) k.cells,val:=z,born:=gL}:MapEntry)]).toArray=es.toArray.push {key:=tv (iw P kT) k.cells,val:=z,born:=gL}:=by simp
  simp only;rw[he];simp[Instr.mapEntry,run_underlying hu,hg,NH,hfind,found,hz,BO,goInt]
 |some j=>
  rw[fZ]at hfind;obtain⟨hj,hkj⟩:=uY fZ;have YR:j<es.length:=by have :=hks.1;omega
  obtain⟨k1,k2⟩:=hks.2 j _ _ (ay YR) (ay hj);rw[hkj]at k1;have hmod:(es.modify j λe=>{e with key:=tv (iw P kT) k.cells})=es:=by apply gz;intro i;rw[List.getElem?_modify];split;rename_i e;subst e;simp only[ay YR,eW,bN];rw[<-k1];rfl;simp
  refine⟨es[j],ay YR,k1,?_⟩;have hps:=FX hb;simp[Instr.mapEntry,run_underlying hu,hg,NH,hfind,found,YR,k1,Da hk,BO,goInt,hmod,hps]
theorem run_store {P:Program}{t:TypeId}{b gL:Nat}{es:List MapEntry}(hb:w.heap[b]?=some (.map es.toArray gL))(Ti:(es.map (·.born)).Nodup){j:Nat}{e0:MapEntry}(hj:es[j]?=some e0)(v:Value):(Instr.entryStore t (.map (some b)) (.int .i64 (e0.born:Int)) v).run P w=.ok () (w.putObj b (.map (es.set j {e0 with val:=v}).toArray gL)):=by
 have hg:(Go.getObj b).run P w=.ok (.map es.toArray gL) w:=by simp[Go.getObj,Sem.run,hb]
 have BO:∀o',(Go.setObj b o').run P w=.ok () (w.putObj b o'):=λo'=>by simp[Go.setObj,Sem.run,hb,World.putObj]
 have hidx:es.findIdx? (λe=>((e.born:Nat):Int)==((e0.born:Nat):Int))=some j:=WideElems.findIdx_born (l:=es) Ti hj;have hmod:(es.modify j λe=>{e with val:=v})=es.set j {e0 with val:=v}:=by apply gz;intro i;rw[List.getElem?_modify,List.getElem?_set];split;grind;simp
 simp[Instr.entryStore,hg,asInt,asIntOf,hidx,BO,hmod]
end
theorem oK {i:Nat}:∀{l:List Nat},hU i l=true↔i∈l
 |[]=>by simp[hU]
 |d::l=>by unfold hU;split;rename_i h;rw[aN h];simp;rename_i h;have :=bH h;rw[oK,aL];exact⟨.inr,λg=>g.elim (λe=>absurd e this) id⟩
section
variable {G:bl}{br:Nat->Nat->Prop}{loc mp:Nat->Option Nat}{w:World}{ρ:List (Nat×Nat)}{N:List Nat}{m:Nat}
theorem oW:∀{xs:List FV}(i:Nat),(FV.HN ρ xs)[i]?=xs[i]?.map (FV.nm ρ)
 |[],i=>by simp[FV.HN]
 |x::xs,0=>by simp[FV.HN]
 |x::xs,i+1=>by simp[FV.HN,oW (xs:=xs) i]
theorem qk:∀xs:List FV,(FV.HN ρ xs).length=xs.length|[]=>rfl|x::xs=>by simp[FV.HN,qk xs]
theorem pN:∀{xs:List FV},FV.yX N m xs=true->∀{i:Nat}{x:FV},xs[i]?=some x->x.only N m=true
 |[],_,i,x,h=>by simp at h
 |y::xs,h,i,x,hx=>by
  simp only[FV.yX]at h;split at h;rename_i hy;cases i with
  |zero=>simp at hx;exact hx▸hy
  |succ i=>exact pN h (by simpa using hx)
  cases h
theorem EV:∀{l:List (AV×FV)},Lu N m l=true->∀{i:Nat}{p:AV×FV},l[i]?=some p->p.2.only N m=true
 |[],_,i,x,h=>by simp at h
 |(k,y)::l,h,i,x,hx=>by
  simp only[Lu]at h;split at h;rename_i hy;cases i with
  |zero=>simp at hx;exact hx▸hy
  |succ i=>exact EV h (by simpa using hx)
  cases h
theorem aU.fwd {G':bl}{v:Value}{x:FV}(h:aU (uQ br loc mp) w v x)(hi:G'.br=br)(hl:∀o b,loc o=some b->G'.loc (Hj ρ o)=some b)(hm:∀o b,mp o=some b->G'.mp (Hj ρ o)=some b):aU G' w v (x.nm ρ):=by
 induction h with
 |p v x h=>exact .p v x (hi▸h)
 |agg cs xs hn _ ih=>
  refine .agg cs (FV.HN ρ xs) (by rw[qk];exact hn) λi c x h1 h2=>?_;rw[oW]at h2;cases hx:xs[i]?with
  |none=>simp[hx]at h2
  |some y=>simp[hx]at h2;subst h2;exact ih i c y h1 hx
 |eN cs xs hn _ ih=>
  refine .eN cs (FV.HN ρ xs) (by rw[qk];exact hn) λi c x h1 h2=>?_;rw[oW]at h2;cases hx:xs[i]?with
  |none=>simp[hx]at h2
  |some y=>simp[hx]at h2;subst h2;exact ih i c y h1 hx
 |ptr o off b h=>exact .ptr _ off b (hl o b h)
 |gd t T bP xs a c h1 h2=>refine .gd t T bP xs a c (hi▸h1) (h2.imp id λ⟨b,off,e1,e2,e3⟩=>?_);cases e3
 |full xs a h=>exact .full xs a (hi▸h)
 |fn f fs cs first captured hn hn' _ _ ih GM=>
  refine .fn f fs cs (FV.HN ρ first) (FV.HN ρ captured) (by rw[qk];exact hn) (by rw[qk];exact hn') (λi c x h1 h2=>?_) λi c x h1 h2=>?_;rw[oW]at h2;cases hx:first[i]?with
  |none=>simp[hx]at h2
  |some y=>simp[hx]at h2;subst h2;exact ih i c y h1 hx
  rw[oW]at h2;cases hx:captured[i]?with
  |none=>simp[hx]at h2
  |some y=>simp[hx]at h2;subst h2;exact GM i c y h1 hx
 |mh l k h=>cases h
 |gH o T bP n c b h1 h2 h3 h4=>cases h2
 |uK o base T bP n c b off h1 h2 h3 h4=>cases h2
 |gV o base off b h=>exact .gV _ base off b (hl o b h)
 |gw o b h=>exact .gw _ b (hm o b h)
 |Ay q r h=>cases h
 |dW v=>exact .dW v
theorem aU.back (hi:∀b o,G.br b o->br b o)(hl:∀o b,hU o N=true->G.loc (Hj ρ o)=some b->loc o=some b)(hm:∀b,G.mp (Hj ρ m)=some b->mp m=some b){v:Value}{y:FV}(h:aU G w v y):∀x:FV,x.only N m=true->y=x.nm ρ->aU (uQ br loc mp) w v x:=by
 have hr:∀{v:Value}{x:AV},dH G.br w v x->dH br w v x:=λh=>h.keep hi (λ_ _ _ _ h=>h) (.refl _ _);induction h with
 |p v x h=>intro z hz e;cases z<;>simp only[FV.nm,reduceCtorEq,FV.p.injEq]at e;subst e;exact .p v _ (hr h)
 |agg cs xs hn _ ih=>intro z hz e;cases z<;>simp only[FV.nm,reduceCtorEq,FV.agg.injEq]at e;rename_i zs;subst e;refine .agg cs zs (by rw[qk]at hn;exact hn) λi c x h1 h2=>?_;exact ih i c (x.nm ρ) h1 (by rw[oW,h2];rfl) x (pN hz h2) rfl
 |eN cs xs hn _ ih=>intro z hz e;cases z<;>simp only[FV.nm,reduceCtorEq,FV.eN.injEq]at e;rename_i zs;subst e;refine .eN cs zs (by rw[qk]at hn;exact hn) λi c x h1 h2=>?_;exact ih i c (x.nm ρ) h1 (by rw[oW,h2];rfl) x (pN hz h2) rfl
 |ptr o off b h=>intro z hz e;cases z<;>simp only[FV.nm,reduceCtorEq,FV.ptr.injEq]at e;obtain⟨rfl,rfl⟩:=e;exact .ptr _ _ b (hl _ b hz h)
 |gd t T bP xs a c h1 h2=>intro z hz e;cases z<;>simp only[FV.nm,reduceCtorEq]at e;cases hz
 |full xs a h=>intro z hz e;cases z<;>simp only[FV.nm,reduceCtorEq,FV.full.injEq]at e;subst e;exact .full _ a (hr h)
 |fn f fs cs first captured hn hn' _ _ ih GM=>intro z hz e;cases z<;>simp only[FV.nm,reduceCtorEq,FV.fn.injEq]at e;rename_i g zs zs';obtain⟨rfl,rfl,rfl⟩:=e;simp only[FV.only]at hz;split at hz;rename_i h1;refine .fn f fs cs zs zs' (by rw[qk]at hn;exact hn) (by rw[qk]at hn';exact hn') (λi c x h2 h3=>?_) λi c x h2 h3=>?_;exact ih i c (x.nm ρ) h2 (by rw[oW,h3];rfl) x (pN h1 h3) rfl;exact GM i c (x.nm ρ) h2 (by rw[oW,h3];rfl) x (pN hz h3) rfl;cases hz
 |gw o b h=>intro z hz e;cases z<;>simp only[FV.nm,reduceCtorEq,FV.gw.injEq]at e;subst e;obtain rfl:=aN hz;exact .gw _ b (hm b h)
 |dW v=>intro z hz e;cases z<;>simp only[FV.nm,reduceCtorEq]at e;exact .dW v
 |_=>intro z hz e;cases z<;>simp only[FV.nm,reduceCtorEq]at e;cases hz
end
section
variable {E:Env}{G:bl}{S:an}{a:Act}{w:World}{o:Oper}
theorem bA.aix (hs:bA E G S a w){w':World}(D:Nat->Prop)(hD:∀k,D k->∃o cells,G.loc o=some k/\Qv.getObj S.aK o=some cells/\(∃cs T fr,w.heap[k]?=some (.cells cs T fr))/\(∀cs T fr,w.heap[k]?=some (.cells cs T fr)->∃cs',w'.heap[k]?=some (.cells cs' T fr)/\cs'.size=cs.size)/\∀(i:Nat)(x:FV),cells[i]?=some x->∃c,w'.cell? ⟨k,i,none⟩=some c/\aU {G with br:=λb o=>G.br b o\/(w.heap.size<=b/\b<w'.heap.size)} w' c x)(hos:w'.os=w.os)(Qf:w'.tape=w.tape)(hout:w'.output=w.output)(hsz:w.heap.size<=w'.heap.size)(hblk:∀k,k<w.heap.size->¬D k->w'.heap[k]?=w.heap[k]?):bA E {G with br:=λb o=>G.br b o\/(w.heap.size<=b/\b<w'.heap.size)} S a w':=by
 have CU:∀k i,G.br k i->¬D k:=λk i h d=>by obtain⟨o,cells,h1,-⟩:=hD k d;exact((hs.gW o k h1).2.2 i).1 h
 have hcell:∀k i,k<w.heap.size->¬D k->w'.cell? ⟨k,i,none⟩=w.cell? ⟨k,i,none⟩:=λk i h1 h2=>by unfold World.cell?;simp only[hblk k h1 h2]
 have FR:∀k i,k<w.heap.size->w'.frozen? ⟨k,i,none⟩=w.frozen? ⟨k,i,none⟩:=λk i h1=>by by_cases h2:D k;obtain⟨o,cells,-,-,⟨cs,T,fr,hb⟩,h3,-⟩:=hD k h2;obtain⟨cs',hb',-⟩:=h3 cs T fr hb;simp[World.frozen?,hb,hb'];unfold World.frozen?;simp only[hblk k h1 h2]
 have others:gy w w':=λk o hk ho=>by rw[hblk k (bz.1 hk).1 (λd=>by obtain⟨o',cells,-,-,⟨cs,T,fr,hb⟩,-⟩:=hD k d;rw[hb]at hk;obtain rfl:=aq hk;simp[Obj.isCells]at ho)];exact hk
 have keep:∀v x,aU G w v x->aU {G with br:=λb o=>G.br b o\/(w.heap.size<=b/\b<w'.heap.size)} w' v x:=λv x hv=>hv.keep (λb o hi=>.inl hi) (λk o c hi hc=>by rw[hcell k o (hs.fJ k o hi) (CU k o hi)];exact hc) (others.qf _) (λ_ _ e=>e) (λ_ _ e=>e);have LF:∀o r,G.row o=some r->¬D r:=λo r h d=>by obtain⟨o',cells,h1,-⟩:=hD r d;exact(hs.jr.row o r h).2.2.2.1 o' h1
 refine⟨⟨hos.trans hs.kept.os,Qf.trans hs.kept.tape,hout.trans hs.kept.output,cg hs.kept.size hsz,λk hk hk'=>?_,λk c1 T1 f1 hk q=>?_⟩,hs.size,hs.ext'.keep rfl rfl rfl keep others (HY:=.more rfl rfl rfl rfl (λb i hi=>hi.imp id λhi=>hi.1) (λb hi=>.inl hi) λ_ _ h=>.inl h),?_,?_,?_,λi hi=>keep _ _ (hs.tmps i hi),λo cs2 ho=>?_,λo b2 ho=>?_,hs.fq,λo t b2 r q1 q2=>hs.cL o t b2 r q1 q2,λt b2 s e T2 h=>?_,hs.ew⟩;rw[hblk k (ef hk hs.kept.size) (λd=>by obtain⟨o,cells,h1,-⟩:=hD k d;exact E.Ny (hs.gW o k h1).2.1 hk hk' rfl)];exact hs.kept.block k hk hk';obtain⟨c2,q1,q2⟩:=hs.kept.shape k c1 T1 f1 hk q;by_cases hkb:D k;obtain⟨o,cells,-,-,-,h3,-⟩:=hD k hkb;obtain⟨c3,q3,q4⟩:=h3 c2 T1 f1 q1;exact⟨c3,q3,q4.trans q2⟩;exact⟨c2,by rw[hblk k (bz.1 q1).1 hkb];exact q1,q2⟩;refine hs.jr.keep rfl rfl (λo bs q=>⟨q,rfl,rfl⟩) (λo bs _ q=>q) (λ_ _ e=>e) hsz (λo bs b2 q q2 e=>hblk b2 (hs.gW o b2 e).1 (λd=>?_)) (λo r e=>hblk r (hs.jr.row o r e).2.1 (LF o r e)) (λo r i e hi=>hi.elim id λhi=>absurd (hs.jr.row o r e).2.1 oO) (λ_ _ _ _ e=>e) (λ_ _ t q _ e=>⟨t,q,e⟩);obtain⟨o',cells,h1,h2,-⟩:=hD b2 d;have :=hs.fq o o' b2 e h1;subst this;rw[q2]at h2;cases h2;rintro k o (hi|⟨hi,_⟩);exact hs.nS k o hi;exact .inr (cg hs.kept.size hi);rintro k o (hi|⟨_,hi⟩);exact ef (hs.fJ k o hi) hsz;exact hi;obtain⟨b2,h2,h3⟩:=hs.aK o cs2 ho;by_cases hd:D b2;obtain⟨o',cells,h4,h5,-,-,h6⟩:=hD b2 hd;have :=hs.fq o o' b2 h2 h4;subst this;rw[ho]at h5;obtain rfl:=aq h5;exact⟨b2,h2,h6⟩;exact⟨b2,h2,λi y hy=>let⟨c,h4,h5⟩:=h3 i y hy;⟨c,by rw[hcell b2 i (hs.gW o b2 h2).1 hd];exact h4,keep _ _ h5⟩⟩;obtain⟨k1,k2,k3⟩:=hs.gW o b2 ho;refine⟨ef k1 hsz,k2,λi=>⟨?_,by rw[FR b2 i k1];exact(k3 i).2⟩⟩;rintro(hi|⟨hi,_⟩);exact(k3 i).1 hi;omega;obtain⟨k1,k2,⟨c1,f1,kt,ku⟩,k3⟩:=hs.gv t b2 s e T2 h;have him:∀i,¬(G.br b2 i)->¬(G.br b2 i\/(w.heap.size<=b2/\b2<w'.heap.size)):=λi q r=>r.elim q λr=>oO
 by_cases hd:D b2;obtain⟨o',cells,-,-,-,h3,-⟩:=hD b2 hd;obtain⟨cs',hb',agD⟩:=h3 c1 T2 f1 kt;refine⟨ef k1 hsz,k2,⟨_,_,hb',ku⟩,λi hi hi'=>?_⟩;obtain⟨⟨c,k4⟩,k5,k6⟩:=k3 i hi hi';refine⟨?_,by rw[FR b2 i k1];exact k5,him i k6⟩;have hlt:i<c1.size:=by simp only[World.cell?,kt]at k4;exact(bz.1 (by simpa using k4)).1
 exact⟨cs'[i]' oO,by simp[World.cell?,hb',agD▸hlt]⟩;refine⟨ef k1 hsz,k2,⟨c1,f1,by rw[hblk b2 k1 hd];exact kt,ku⟩,λi hi hi'=>?_⟩;obtain⟨⟨c,k4⟩,k5,k6⟩:=k3 i hi hi';exact⟨⟨c,by rw[hcell b2 i k1 hd];exact k4⟩,by rw[FR b2 i k1];exact k5,him i k6⟩
theorem AJ {o:Nat}:∀{aK:List (Nat×List FV)},o∈jF aK↔∃cells,Qv.getObj aK o=some cells
 |[]=>by simp[jF,Qv.getObj]
 |(u,c)::r=>by simp only[jF,aL,Qv.getObj];split;rename_i h;rw[aN h];simp;rename_i h;have :=bH h;rw[AJ];exact⟨λg=>g.elim (λe=>absurd e.symm this) id,.inr⟩
theorem EW {n:Nat}:∀{l:List Nat},HO n l=true↔n∉l
 |[]=>by simp[HO]
 |d::l=>by unfold HO;split;rename_i h;rw[aN h];simp;rename_i h;have :=bH h;rw[EW,aL,not_or];exact⟨λg=>⟨this,g⟩,λg=>g.2⟩
theorem BS {ρ:List (Nat×Nat)}{o:Nat}:∀{aK:List (Nat×List FV)},o∈jF aK->Hj ρ o∈HP ρ aK|(u,c)::r,h=>by rcases aL.1 h with rfl|h;exact .head _;exact .tail _ (BS h)
theorem LG {ρ:List (Nat×Nat)}:∀{aK:List (Nat×List FV)},Nr (HP ρ aK)=true->∀{o o':Nat},o∈jF aK->o'∈jF aK->Hj ρ o=Hj ρ o'->o=o'|(u,c)::r,h,o,o',h1,h2,e=>by simp only[HP,Nr]at h;split at h;rename_i hn;have hn:=EW.1 hn;rcases aL.1 h1 with rfl|g1;rcases aL.1 h2 with rfl|h2;rfl;exact absurd (e▸BS h2) hn;rcases aL.1 h2 with rfl|h2;exact absurd (e▸BS g1) hn;exact LG h g1 h2 e;cases h
theorem tu {N:List Nat}{m:Nat}:∀{aK:List (Nat×List FV)},vV N m aK=true->∀{o:Nat}{cells:List FV},Qv.getObj aK o=some cells->iK o=true/\FV.yX N m cells=true/\cells≠[]
 |(u,[])::r,h,_,_,_=>by cases h
 |(u,c::cs)::r,h,o,cells,hc=>by unfold vV at h;split at h;rename_i h1 h2;simp only[Qv.getObj]at hc;split at hc;rename_i hb;obtain rfl:=aN hb;obtain rfl:=aq hc;exact⟨h1,h2,λe=>by cases e⟩;exact tu h hc;cases h
theorem zy {ρ:List (Nat×Nat)}:∀{aK:List (Nat×List FV)},Ns S ρ aK->∀{o:Nat}{cells:List FV},Qv.getObj aK o=some cells->Qv.getObj S.aK (Hj ρ o)=some (FV.HN ρ cells)|(u,c)::r,h,o,cells,hc=>by simp only[Qv.getObj]at hc;split at hc;rename_i hb;obtain rfl:=aN hb;obtain rfl:=aq hc;exact h.1;exact zy h.2 hc
theorem Tj {b:Nat}{o o':Obj}:(w.putObj b o).putObj b o'=w.putObj b o':=by unfold World.putObj;simp
end
section
variable {E:Env}{G:bl}{S:an}{a:Act}{w:World}{o:Oper}
theorem jU (G:bl)(w:World):aU G w undef (.p (.eN [])):=.p _ _ (dH.eN (br:=G.br) (w:=w) [] [] rfl (λi c x h _=>by cases i<;>cases h))
theorem uc (hs:bA E G S a w){dst:Option Nat}{r:dJ}{v:Value}{w':World}(hb:Below w.heap.size w w')(hok:oz G.br w.heap.size w' v r)(YV:afG S dst r:=by trivial):∃G',bA E G' (S.got dst r) (a.put dst v) w':=by
 cases r with
 |own rest T bP xss=>
  cases dst with
  |none=>exact⟨_,hs.ext hb⟩
  |some d0=>
   have hdn:=YV d0 rfl;simp only[an.got];generalize hd:S.off+d0=d at hdn;obtain⟨b,c,cs,fr,us,rfl,h1,h2,h3,h4,h5,h6,h7,h8,h9,h10⟩:=hok;have hg0:=(hs.PK hb λb' _=>b'≠b).kill d;have hkeep:∀{u:Value}{y:AV},dH (Zf G.br w.heap.size b) w' u y->dH (λb' o=>G.br b' o\/(w.heap.size<=b'/\b'<w'.heap.size/\b'≠b)) w' u y:=λh=>h.vR (λb' o c hi hc=>⟨hi.imp id λh=>⟨h.1,World.block_lt_of_cell? w' _ hc,h.2⟩,hc⟩) λb' es k hi hb'=>⟨hi.imp id λh=>⟨h.1,(bz.1 hb').1,h.2⟩,hb'⟩;have hfl:xss.flatten.length=xss.length*bP:=ic λzs hz=>(h5 zs hz).1;have hg1:=hg0.agy (d:=d) (b:=b) (cells:=aH xss.flatten) hdn (by simp[bl.free]) (lI _ _) (λo h=>by simp only[bl.free]at h;split at h;cases h;have :=(hs.gW o _ h).1;omega) (λt' r h=>by simp only[bl.free]at h;split at h;cases h;have :=(hs.gv t' _ r.1 r.2.1 r.2.2 h).1;omega) (λo h=>by simp only[bl.free]at h;split at h;cases h;have :=(hs.jr.row o _ h).2.1;omega) (λes k e=>by rw[h6]at e;cases e) h2 (cg hs.kept.size h1) (λi=>⟨λh=>by rcases h with h|⟨-,-,h⟩;have :=hs.fJ _ _ h;omega;exact h rfl,h7 i⟩) (λi x hx=>by
    rw[we]at hx;cases hq:xss.flatten[i]?with
    |none=>rw[hq]at hx;cases hx
    |some y=>rw[hq]at hx;obtain rfl:=aq hx;obtain⟨u,q1,q2⟩:=h9 i y hq;exact⟨u,q1,.p _ _ (hkeep q2)⟩)
   have hg2:=hg1.zq (t:=d) (B:=b) (s:=xss.length*bP) (e:=c*bP) (T:=T) (vZ _ d) h2 (cg hs.kept.size h1) ⟨cs,fr,h6,trivial⟩ (λo h=>by simp only[bl.free]at h;split at h;rename_i e;subst e;refine⟨rfl,lI _ _,λcells hc=>?_⟩;simp only[Qv.getObj,jI]at hc;obtain rfl:=aq hc;rw[jf,hfl];have :=(hs.gW o _ h).1;omega) (λt' r h=>by simp only[bl.free]at h;split at h;cases h;have :=(hs.gv t' _ r.1 r.2.1 r.2.2 h).1;omega) (λo h=>by simp only[bl.free]at h;split at h;cases h;have :=(hs.jr.row o _ h).2.1;omega) (λi hi hi'=>⟨h8 i hi',h7 i,λh=>by rcases h with h|⟨-,-,h⟩;have :=hs.fJ _ _ h;omega;exact h rfl⟩);refine⟨_,hg2.put (some d0) (x:=adq rest (.gH d T bP)) ?_⟩;have YS:aU {(bl.free {G with br:=λb' o=>G.br b' o\/(w.heap.size<=b'/\b'<w'.heap.size/\b'≠b)} d)with loc:=λo=>if o=d then some b else(bl.free {G with br:=λb' o=>G.br b' o\/(w.heap.size<=b'/\b'<w'.heap.size/\b'≠b)} d).loc o,tail:=λt'=>if t'=d then some (b,xss.length*bP,c*bP,T)else(bl.free {G with br:=λb' o=>G.br b' o\/(w.heap.size<=b'/\b'<w'.heap.size/\b'≠b)} d).tail t'} w' (.slice (some ⟨b,0,none⟩) xss.length c) (.gH d T bP):=.gH d T bP xss.length c b (by simp) (by simp) h4 h3;cases rest with
   |none=>exact YS
   |some r=>
    obtain⟨g1,g2⟩:=h10 r rfl;refine .eN (_::us) (_::aH r) (by simp[jf,g1]) λi u x q1 q2=>?_;cases i with
    |zero=>simp at q1 q2;subst q1;subst q2;exact YS
    |succ i=>
     simp only[mI]at q1 q2;rw[we]at q2;cases hq:r[i]?with
     |none=>rw[hq]at q2;cases q2
     |some y=>rw[hq]at q2;obtain rfl:=aq q2;exact .p _ _ (hkeep (g2 i u y q1 hq))
 |val x=>exact⟨_,(hs.ext hb).put dst (oz.Tc (r:=.val x) hok)⟩
 |vf x=>exact⟨_,(hs.ext hb).put dst (oz.Tc (r:=.vf x) hok)⟩
 |fresh T bP xs=>
  cases dst with
  |none=>exact⟨_,hs.ext hb⟩
  |some d0=>simp only[an.got];generalize hd:S.off+d0=d;obtain⟨ad,c,rfl,⟨rfl,rfl,h⟩|⟨b,off,cs,fr,rfl,h1,h2,h3,hty,h4,h5⟩⟩:=hok;have hr:dH (λb o=>G.br b o\/(w.heap.size<=b/\b<w'.heap.size)) w' (.slice ad ([]:List (List AV)).length 0) (.sl []):=h.vR (λb o c hi hc=>⟨hi.imp id λh=>⟨h,World.block_lt_of_cell? w' _ hc⟩,hc⟩) λb es k hi hb=>⟨hi.imp id λh=>⟨h,(bz.1 hb).1⟩,hb⟩;exact⟨_,((hs.ext hb).kill d).put (some d0) (x:=.gd d T bP []) (.gd d T bP [] ad 0 hr (.inl ⟨rfl,rfl⟩))⟩;have hg:=((hs.PK hb λb' o=>¬(b'=b/\off+xs.length*bP<=o/\o<off+c*bP)).kill d).AH (t:=d) (B:=b) (s:=off+xs.length*bP) (e:=off+c*bP) (T:=T) (vZ _ d) h2 (cg hs.kept.size h1) ⟨cs,fr,hty,trivial⟩ (λo h=>by simp only[bl.free]at h;split at h;cases h;have :=(hs.gW o _ h).1;omega) (λt' r h=>by simp only[bl.free]at h;split at h;cases h;have :=(hs.gv t' _ r.1 r.2.1 r.2.2 h).1;omega) (λo h=>by simp only[bl.free]at h;split at h;cases h;have :=(hs.jr.row o _ h).2.1;omega) (λi hi hi'=>by obtain⟨g1,g2⟩:=h4 i hi hi';refine⟨g1,g2,?_⟩;rintro(h|⟨-,-,h⟩);have :=hs.fJ _ _ h;omega;exact h ⟨rfl,hi,hi'⟩);refine⟨_,hg.put (some d0) (x:=.gd d T bP xs) (.gd d T bP xs _ c ?_ (.inr ⟨b,off,rfl,h3,by simp⟩))⟩;exact h5.vR (λb o c hi hc=>⟨hi.imp id λh=>⟨h.1,World.block_lt_of_cell? w' _ hc,h.2⟩,hc⟩) λb es k hi hb=>⟨hi.imp id λh=>⟨h.1,(bz.1 hb).1,h.2⟩,hb⟩
theorem wp_make (hs:bA E G S a w){t:TypeId}{len cap:Operand}{d0:Nat}{K:an->Prop}(ho:o.op=.makeSlice t len cap)(WQ:o.dst=some d0)(h:SP E.C S t d0 (S.val len) (S.val cap) K){next:Act->World->Prop}{Q:Exit->Act->World->Prop}(hn:∀S' a' w',K S'->nT E S' a' w'->next a' w'):BP E o a w next Q:=by
 have hlv:=aU.val hs len;have hcv:=aU.val hs cap;generalize S.val len=vl at h hlv;generalize S.val cap=vc at h hcv;unfold SP at h;split at h;rename_i e _ ht;have hu:=(E.C.ok ht).slice;split at h;rename_i bytes sh z hj;have hok:=E.C.ok hj;split at h;rename_i k n k' n';obtain⟨m,rfl,rfl,hb,h63,h⟩:=h;rw[jX]at h;obtain⟨hdn,cs,rfl,h⟩:=h;have e1:=hlv.gh;have e2:=hcv.gh;obtain⟨inf,z',hi,hsz,hby,hz,GQ⟩:=hok.info';simp only at hsz hby GQ;have akW:z'.cells=#[z]:=by apply iW.1;rw[GQ]
 have hrun:=run_make (P:=E.C.P) w t e inf z' hu hi hz k k' (m:Int) (m:Int) oO oO (by grind) oO;rw[akW,hsz,jG,tw]at hrun;have hmc:madeCells #[z] m=(List.replicate m z).toArray:=by apply iW.1;apply gz;intro i;simp only[madeCells,nW,aM,Array.toList_range,List.getElem?_replicate];by_cases hi:i<m;grind;simp_all
 rw[hmc]at hrun;generalize hd:S.off+d0=d at h hdn;obtain⟨G2,g1,g2,g3,g4,g5,g6,g7,g8⟩:=uW hs d hdn (List.replicate m z) (List.replicate m (FV.iC z)) e λi x hx=>by rw[List.getElem?_replicate]at hx;split at hx;rename_i hi;obtain rfl:=aq hx;exact⟨z,by simp_all,uV _ _ _⟩;simp_all
 have hg:=g1.zq (t:=d) (B:=w.heap.size) (s:=m*1) (e:=m*1) (T:=e) g4 (by simp) hs.kept.size (xz w _ e) (λo q=>by have :o=d:=iE λhne=>g6 o hne q;subst this;refine⟨rfl,lI _ _,λcells hc=>?_⟩;simp only[Qv.getObj,jI]at hc;obtain rfl:=aq hc;rw[FV.fT,aj,List.length_replicate,tw]) (λt' r q=>g5 t' r q) (λo q=>g7 o q) (λi h1 h2=>oO);refine wp_value (v:=.slice (some ⟨w.heap.size,0,none⟩) m m) (w':=w.alloc (.cells (List.replicate m z).toArray e)) ?_ ?_;simp[execOp,ho,e1,e2,hrun];rw[WQ];exact hn _ _ _ h ⟨_,hg.put (some d0) (x:=.gH d e 1) (.gH d e 1 m m w.heap.size g2 (by simp) (aB _) oO)⟩;simp_all;rename_i j _ hj;have hok:=E.C.ok hj;split at h;rename_i k n k' n';obtain⟨m,rfl,rfl,hb,h63,h⟩:=h;rw[lU]at h;have e1:=hlv.gh;have e2:=hcv.gh;obtain⟨inf,z',hi,hsz,hby,hz,GQ⟩:=hok.info';have hrun:=run_make (P:=E.C.P) w t e inf z' hu hi hz k k' 0 (m:Int) oO oO (by rw[hby,<-Int.natCast_mul];omega) oO;rw[jG,show(0:Int).toNat=0 from rfl]at hrun;have hsize:(madeCells z'.cells (m*inf.size)).size=m*j.size:=by rw[size_madeCells,hsz]
 generalize madeCells z'.cells (m*inf.size)=us at hrun hsize;obtain⟨G',hg⟩:=uc hs (dst:=o.dst) (r:=.fresh e j.size []) (v:=.slice (some ⟨w.heap.size,0,none⟩) 0 m) (w':=w.alloc (.cells us e)) ((Below.refl _ _).alloc (aB _) _) ⟨some ⟨w.heap.size,0,none⟩,m,rfl,.inr ⟨w.heap.size,0,us,(0,0),rfl,aB _,(bz.1 (World.alloc_heap_new w _)).1,(λys hy=>by cases hy),World.alloc_heap_new w _,λi hi hi'=>by
  refine⟨?_,World.frozen?_alloc_new w _ e i⟩;rw[World.cell?_alloc_new];have hl:i<us.size:=by rw[hsize];omega
  exact⟨_,tA hl⟩,.Vg _ _⟩⟩;refine wp_value (v:=.slice (some ⟨w.heap.size,0,none⟩) 0 m) (w':=w.alloc (.cells us e)) ?_ (hn _ _ _ ?_ ⟨G',hg⟩);simp[execOp,ho,e1,e2,hrun];rw[WQ];exact h;exact h.elim;exact h.elim;simp_all
theorem wp_evAppend (hs:bA E G S a w){d:Nat}{K:an->Prop}{x y:Operand}{t u:TypeId}(ho:o.op=.call ⟨.builtin .append,#[x,y],#[t,u]⟩)(hd:o.dst=some d)(h:uj E.C t u d S (S.val x) (S.val y) K){next:Act->World->Prop}{Q:Exit->Act->World->Prop}(hn:∀S' a' w',K S'->nT E S' a' w'->next a' w'):BP E o a w next Q:=by
 have hx:=aU.val hs x;have hy:=aU.val hs y;generalize S.val x=vx at h hx;generalize S.val y=vy at h hy;unfold uj at h;split at h
 ·rename_i e _ ui ht hui;have KD:=(E.C.ok ht).slice;obtain⟨dd,ZN,hsh⟩:=(E.C.ok hui).zh;split at h;exact h.elim;rename_i zw;have hdk:∀k,dd≠.int k:=λk e=>by rw[<-hsh,e]at zw;simp[shapeOf,Shape.FM]at zw
  split at h;exact h.elim;rename_i j hj;have hok:=E.C.ok hj;split at h;exact h.elim;rename_i ys hys;have fin:∀{k:Nat}{xs:List (List AV)}{ad:Option Addr}{c:Nat},a.eval x=.slice ad xs.length c->dH G.br w (.slice ad xs.length c) (.sl xs)->(∀zs,zs∈xs->zs.length=j.size)->((xs=[]/\c=0)\/(ys≠[]/\c=xs.length)\/∃b off,ad=some ⟨b,off,none⟩/\G.tail k=some (b,off+xs.length*j.size,off+c*j.size,e))->(∀zs,zs∈ys->zs.length=j.size)->(xs.length+ys.length)*j.bytes<=2^47->j.bytes≠0->K ((S.kill k).put (some d) (.gd k e j.size (xs++ys)))->BP E o a w next Q:=λ{k xs ad c} ev hr KC hroom zv hb hb0 hK=>by
   obtain⟨news,n1,n2,n3⟩:=hy.items (P:=E.C.P) (e:=j.size) hys zv;obtain⟨_,_,hv,hle,-⟩:=hr.lG;have agE:xs.length<=c:=by injection hv with e1 e2 e3;omega
   obtain⟨v',w',G',r1,r2,r3⟩:=Qi (ty:=o.type) hs KD ZN hdk hok hr KC zv agE hroom n1 n2 n3 hb hb0;refine wp_value (v:=v') (w':=w') ?_ (hn _ _ _ hK ⟨G',?_⟩);simp[execOp,ho,resolve,invoke,builtin,ev,r1];rw[hd];exact r2.put (some d) r3
  split at h;rename_i k T bP xs;split at h;rename_i he hb0 hT;obtain rfl:=aN he;obtain rfl:=aN hT;obtain⟨KC,zv,hb,zs,rfl,hK⟩:=h;generalize LD:a.eval x=v at hx;cases hx with
  |gd _ _ _ _ ad c hr hroom=>exact fin LD hr KC (hroom.imp id λ⟨b,off,e1,_,e2⟩=>.inr ⟨b,off,e1,e2⟩) zv hb (bH hb0) hK
  exact h.elim;rename_i k T bP;split at h;rename_i he hT hb0;obtain rfl:=aN he;obtain rfl:=aN hT;have hb0:=bH hb0;split at h;exact h.elim;rename_i xs hxs;obtain⟨hkn,hxs⟩:=jl hxs;obtain⟨n,WR,zv,hbd,zs,rfl,hK⟩:=h;obtain⟨news,n1,n2,n3⟩:=hy.items (P:=E.C.P) (e:=j.size) hys zv;generalize Qk:a.eval y=vy at hy n2 n3;generalize NM:a.eval x=vv at hx;cases hx with
  |gH _ _ _ n' c b p1 p2 p3 p4=>
   have nl:news.length=ys.length*j.size:=n1.len;have Vx:(aH ys.flatten).length=ys.length*j.size:=by rw[jf];exact ic zv
   have nr:∀(i:Nat)(z:FV),(aH ys.flatten)[i]?=some z->∃u,news[i]?=some u/\aU G w u z:=λi z hz=>by
    rw[we]at hz;have hi:i<ys.length*j.size:=by
     rw[<-ic zv];cases hq:ys.flatten[i]?with
     |none=>rw[hq]at hz;cases hz
     |some q=>exact(aI.1 hq).1
    have hq:i/j.size<ys.length:=Dq (by rw[xu];exact hi);have hr:i%j.size<(ys[i/j.size]).length:=by rw[zv _ (aQ hq)];exact oc _ p4
    have hii:i/j.size*j.size+i%j.size=i:=Nat.div_add_mod' i j.size;have h1:=ay hq;have h2:=ay hr;have h3:=nG zv h1 h2;rw[hii]at h3;rw[h3]at hz;obtain rfl:=aq hz;obtain⟨u,e1,e2,-⟩:=n1.at_ _ _ _ _ h1 h2;rw[hii]at e1;exact⟨u,e1,.p _ _ e2⟩
   have hxl:=(hs.cL _ _ _ _ p1 p2).2.2 xs hxs;simp only at hxl;obtain rfl:n=n':=gP p4 (WR.symm.trans hxl);obtain⟨t1,t2,tt,t3⟩:=hs.gv _ _ _ _ _ p2;by_cases hc:n+ys.length<=c;have hq:n*j.size+news.length<=c*j.size:=by have :=fG j.size hc;rw[bK]at this;omega
   have hrun:=od (P:=E.C.P) (w:=w) (ty:=o.type) (b:=b) (off:=0) KD ZN hdk hok n2 (n3 w λ_ _=>rfl) hc (λq NJ=>by rw[dF];obtain⟨⟨u,hu⟩,-,-⟩:=t3 (n*j.size+q) oO oO;rw[hu];rfl) (λq NJ=>by rw[dF];exact(t3 (n*j.size+q) oO oO).2.1) n1.one;rw[dF]at hrun;have hg:=hs.Qj (news:=news) hxs p1 p2 hq nr oO;have hex:(execOp a.eval o).run E.C.P w=.ok (.value (.slice (some ⟨b,0,none⟩) (n+ys.length) c)) (w.setCells b (n*j.size) news):=by simp[execOp,ho,resolve,invoke,builtin,NM,Qk,hrun]
   refine wp_value hex (hn _ _ _ hK ⟨{G with tail:=λt=>if t=k then some (b,n*j.size+news.length,c*j.size,T)else G.tail t},?_⟩);rw[hd];refine hg.put (some d) (v:=.slice (some ⟨b,0,none⟩) (n+ys.length) c) (x:=.gH k T j.size) (.gH k T j.size (n+ys.length) c b p1 ?_ hc p4);simp only[if_true];rw[nl,bK];obtain⟨olds,ol,or',of'⟩:=BQ (P:=E.C.P) hs hxs p1 p2;obtain⟨rest,z,hz,qX,hrun⟩:=iZ (P:=E.C.P) (w:=w) (ty:=o.type) (news:=news) (olds:=olds) KD ZN hdk hok n2 n3 of' hc hbd hb0;have hcap:n+ys.length<=grownCap w (n+ys.length) c T:=grownCap_ge w _ _ _;generalize hcg:grownCap w (n+ys.length) c T=cap at*;have hrl:rest.size=(cap-(n+ys.length))*j.size:=by rw[qX,size_zeroCells,hz]
   have mF:(olds++news++rest.toList).length=cap*j.size:=by simp only[aA,ol,nl,jH,hrl,<-bK];rw[show n+ys.length+(cap-(n+ys.length))=cap from oO]
   obtain⟨G',g1,g2,g3⟩:=AI hs.drew k hkn (zs:=xs++aH ys.flatten) (cells:=olds++news++rest.toList) (s:=(n+ys.length)*j.size) (cap:=cap*j.size) (e:=T) (by rw[aA,hxl,Vx,bK]) mF (λi z hz=>by have hk:∀{v:Value}{z:FV},aU G w v z->aU G {w with drawn:=w.drawn+1} v z:=λh=>h.keep (λ_ _ h=>h) (λ_ _ _ _ h=>h) (λ_ _ _ _ h=>h) (λ_ _ h=>h) (λ_ _ h=>h);by_cases hi:i<xs.length;rw[cF hi]at hz;obtain⟨u,h2,h3⟩:=or' i z hz;exact⟨u,by rw[bq,cF oO];exact h2,hk h3⟩;rw[dN oO]at hz;obtain⟨u,h2,h3⟩:=nr _ z hz;have YT:=(aI.1 h2).1;refine⟨u,?_,hk h3⟩;rw[cF (by rw[aA];omega),dN oO,<-h2];congr 1;omega);have hW:w.drew.alloc (.cells (olds.toArray++news.toArray++rest) T)=({w with drawn:=w.drawn+1}:World).alloc (.cells (olds++news++rest.toList).toArray T):=by
    have :olds.toArray++news.toArray++rest=(olds++news++rest.toList).toArray:=by apply iW.1;simp
    rw[this];rfl
   rw[hW]at hrun;refine wp_value (v:=.slice (some ⟨w.heap.size,0,none⟩) (n+ys.length) cap) (w':=({w with drawn:=w.drawn+1}:World).alloc (.cells (olds++news++rest.toList).toArray T)) ?_ (hn _ _ _ hK ⟨G',?_⟩);simp[execOp,ho,resolve,invoke,builtin,NM,Qk]at hrun⊢;rw[hrun];rfl;rw[hd];exact g1.put (some d) (v:=.slice (some ⟨w.heap.size,0,none⟩) (n+ys.length) cap) (x:=.gH k T j.size) (.gH k T j.size (n+ys.length) cap w.heap.size g2 g3 hcap p4)
  exact h.elim;split at h;rename_i hb0;obtain⟨zv,hb,hK⟩:=h;rw[lU]at hK;generalize LD:a.eval x=v at hx;cases hx with
  |full _ ad hr=>exact fin (k:=S.off+d) LD hr (by simp) (.inl ⟨rfl,rfl⟩) zv (by simpa using hb) (bH hb0) (by simpa using hK)
  exact h.elim;split at h;rename_i hb0;obtain⟨hne,KC,zv,hb,hK⟩:=h;rw[lU]at hK;obtain⟨zs,rfl,hK⟩:=hK;generalize LD:a.eval x=v at hx;cases hx with
  |full _ ad hr=>exact fin (k:=S.off+d) LD hr KC (.inr (.inl ⟨hne,rfl⟩)) zv hb (bH hb0) hK
  exact h.elim;exact h.elim
 exact h.elim
theorem EX {d o:Nat}{ys:List AV}{cells:List FV}:∀{l:List (Nat×List FV)},Qv.getObj (EJ d ys l) o=some cells->o≠d/\∃cs,Qv.getObj l o=some cs/\cells=FV.SJ d ys cs:=by
 intro l;induction l with
 |nil=>intro h;cases h
 |cons p l ih=>
  obtain⟨u,i⟩:=p;intro h;simp only[EJ]at h;split at h;rename_i hb;obtain rfl:=aN hb;obtain⟨h1,cs,h2,h3⟩:=ih h;refine⟨h1,cs,?_,h3⟩;simp only[Qv.getObj];have :Nat.beq u o=false:=by cases hb:Nat.beq u o;rfl;exact absurd (aN hb).symm h1
  rw[this];exact h2;rename_i hb;simp only[Qv.getObj]at h⊢;split at h;rename_i Bf;obtain rfl:=aN Bf;obtain rfl:=aq h;exact⟨bH hb,i,rfl,rfl⟩;rename_i Bf;exact ih h
theorem Qs {ys:List AV}(h:uP ys=true):∀y,y∈ys->y.one=true:=by
 induction ys with
 |nil=>simp
 |cons x xs ih=>simp only[uP]at h;split at h;rename_i h1;intro y hy;rcases aL.1 hy with rfl|hy;exact h1;exact ih h y hy;cases h
theorem mj.Nj {G G':bl}{S:an}{w:World}{d:Nat}{ys:List AV}(hi:∀b i es k,w.heap[b]?=some (.map es k)->(∃o,G'.mp o=some b)->G'.br b i->G.br b i)(hi':∀b,G.br b 0->G'.br b 0)(hmp:G'.mp=G.mp)(hit:G'.it=G.it)(hl:∀o b,G'.loc o=some b->G.loc o=some b)(ht:∀q r,G.tail (.inr q)=some r->G'.tail (.inr q)=some r:=by first|exactλ_ _ h=>h|exactλ_ _ h=>(af (λe=>nomatch e)).trans h):mj (FV.fz d ys) G G' S (S.Nj d ys) w:=by refine⟨λ_=>rfl,λo l' h=>?_,λq x h=>⟨h,λr hr=>hit▸hr⟩,λ_ _ h=>hmp▸h,λ_ _ h=>hit▸h,hi,hi',λo b h=>.inl (hl o b h),ht⟩;obtain⟨l,h1,h2⟩:=xo h;exact⟨l,h1,h2,λb hb=>hmp▸hb⟩
theorem bA.afP (hs:bA E G S a w){d:Nat}{cells:List FV}{ys:List AV}(hdn:iK d=false)(hc:Qv.getObj S.aK d=some cells)(hy:FV.gx cells=some ys)(h1:uP ys=true):∃G',bA E G' (S.Nj d ys) a w/\∀v x,aU G w v x->aU G' w v (x.fz d ys):=by
 obtain⟨B,hB,hcell⟩:=hs.aK d cells hc;obtain⟨Pk,GS,hl3⟩:=hs.gW d B hB;obtain⟨hlen,vX⟩:=FV.jk hy;let G':bl:={G with br:=λb o=>G.br b o\/(b=B/\o<ys.length),loc:=λo=>if o=d then none else G.loc o};have hone:=Qs h1;have vY:∀o b,G'.loc o=some b->o≠d/\G.loc o=some b:=λo b h=>by simp only[G']at h;split at h;cases h;rename_i hne;exact⟨hne,h⟩
 have up:∀v x,aU G w v x->aU G' w v (x.fz d ys):=λv x hv=>by refine hv.fz (B:=B) (λb o h=>.inl h) (λb h=>by rw[hB]at h;exact(aq h).symm) (λj y hj=>?_) (λo b hne h=>by simp only[G'];rw[af hne];exact h) (λ_ _ h=>h);obtain⟨x,hx,hxy⟩:=vX j y hj;obtain⟨c,h2,h3⟩:=hcell j x hx;exact⟨hone y (bW hj),.inr ⟨rfl,(aI.1 hj).1⟩,c,h2,(h3.fA hxy).keep (λb o h=>.inl h) (λ_ _ _ _ h=>h) (.refl _ _)⟩
 have ZO:∀b i es n,b=B->i<ys.length->w.heap[b]?=some (.map es n)->False:=λb i es n e hi hb=>by subst e;obtain⟨x,hx,-⟩:=vX i _ (ay hi);obtain⟨c,h2,-⟩:=hcell i x hx;rw[CT hb]at h2;cases h2
 refine⟨G',⟨hs.kept,hs.size,hs.ext'.move (S':=S.Nj d ys) (FV.fz d ys) rfl rfl rfl up (.refl _) (.Nj (λb i es n hb _ h=>h.elim id λh=>(ZO b i es n h.1 h.2 hb).elim) (λ_ h=>.inl h) rfl rfl (λo b h=>(vY o b h).2)),?_,?_,?_,λi hi=>up _ _ (hs.tmps i hi),λo cs ho=>?_,λo b ho=>?_,λo o' b h h'=>hs.fq o o' b (vY _ _ h).2 (vY _ _ h').2,λo t b r h h'=>lX.mono (hs.cL o t b r (vY _ _ h).2 h') (λbs q=>⟨bs,q⟩) (λcs q=>?_),λt b s e T h=>?_,hs.ew⟩,up⟩;refine hs.jr.keep rfl rfl (λo bs q=>?_) (λo _ _ q=>?_) (λ_ _ e=>e) (aB _) (λ_ _ _ _ _ _=>rfl) (λ_ _ _=>rfl) (λo r i e hi=>?_) (λ_ _ o' _ e=>(vY o' _ e).2) (λ_ _ t q _ e=>⟨t,q,e⟩);refine⟨q,?_,rfl⟩;have hne:o≠d:=λe=>by have :=(hs.jr.at_ o bs q).1;rw[e,hc]at this;cases this
 simp only[G'];rw[af hne];cases h':Qv.getObj (EJ d ys S.aK) o with
 |none=>exact h'
 |some cs=>obtain⟨-,cs',h2,-⟩:=EX h';rw[q]at h2;cases h2
 rcases hi with hi|⟨rfl,-⟩;exact hi;exact absurd hB ((hs.jr.row o _ e).2.2.2.1 d);rintro b o (h|⟨rfl,-⟩);exact hs.nS b o h;exact .inr (E.HX GS hdn);rintro b o (h|⟨rfl,-⟩);exact hs.fJ b o h;exact Pk;obtain⟨hne,cs0,h2,rfl⟩:=EX ho;obtain⟨b,h3,h4⟩:=hs.aK o cs0 h2;refine⟨b,by simp only[G'];rw[af hne];exact h3,λi x hx=>?_⟩;rw[FV.vF,aM]at hx;cases hq:cs0[i]?with
 |none=>simp[hq]at hx
 |some y=>simp[hq]at hx;subst hx;obtain⟨c,h5,h6⟩:=h4 i y hq;exact⟨c,h5,up _ _ h6⟩
 obtain⟨hne,ho'⟩:=vY o b ho;obtain⟨k1,k2,k3⟩:=hs.gW o b ho';refine⟨k1,k2,λi=>⟨?_,(k3 i).2⟩⟩;rintro(h|⟨e,-⟩);exact(k3 i).1 h;exact hne (hs.fq o d b ho' (by rw[e];exact hB));obtain⟨-,cs0,h2,rfl⟩:=EX q;exact⟨cs0,h2,by rw[FV.vF,aj]⟩;obtain⟨k1,k2,kt,k3⟩:=hs.gv t b s e T h;refine⟨k1,k2,kt,λi hi hi'=>?_⟩;obtain⟨k4,k5,k6⟩:=k3 i hi hi';refine⟨k4,k5,?_⟩;rintro(h7|⟨rfl,hlt⟩);exact k6 h7;have :=(hs.cL d t b _ hB h).2.2 cells hc;simp only at this;omega
theorem bA.Nj (hs:bA E G S a w){d:Nat}{cells:List FV}{ys:List AV}(hdn:iK d=false)(hc:Qv.getObj S.aK d=some cells)(hy:FV.gx cells=some ys)(h1:uP ys=true):∃G',bA E G' (S.Nj d ys) a w:=let⟨G',h,_⟩:=hs.afP hdn hc hy h1;⟨G',h⟩
theorem zA:∀(ds:List Nat){K:an->Prop}{S:an},FO ds K S->nT E S a w->∃S',K S'/\nT E S' a w|[],_,S,h,hs=>⟨S,h,hs⟩|d::ds,K,S,h,⟨G,hs⟩=>by simp only[FO]at h;split at h;exact h.elim;rename_i cells hc;split at h;exact h.elim;rename_i ys hy;split at h;rename_i h1;exact zA ds h (hs.Nj (jl hc).1 (jl hc).2 hy h1);exact h.elim
def marksOf:List Deferred->List Nat|[]=>[]|d::ds=>match d.target with|.collected r=>r::marksOf ds|_=>marksOf ds
theorem mu (ms:List Nat):marksOf (ms.map mark)=ms:=by
 induction ms with
 |nil=>rfl
 |cons m ms ih=>simp[marksOf,ih]
def Env.push (E:Env)(a:Act):Env:={E with mD:=none,bM:=a.tmps::E.bM,fixed:=marksOf a.defers++E.fixed}
def fh (E:Env)(Y:pn):Prop:=∀(mD:Option Nat)(xs:List (Array Value))(ls:List (Nat×Loop))(fixed:List Nat)(G:bl)(S:an)(a:Act)(w:World)(l k:Nat)(args:List FV)(K:FV->an->Prop)(vals:List Value),bA {E with mD:=mD,bM:=xs++E.bM,loops:=E.loops++ls,fixed:=fixed} G S a w->G.yl l=some k->Y l args K S->vals.length=args.length->(∀(i:Nat)(v:Value)(x:FV),vals[i]?=some v->args[i]?=some x->aU G w v x)->YieldAt Fence.wide 0 E.C.P k vals.toArray w λe w'=>∃v x G' S',e=.returned v/\K x S'/\bA {E with mD:=mD,bM:=xs++E.bM,loops:=E.loops++ls,fixed:=fixed} G' S' a w'/\aU G' w' v x
theorem fh.later {Y:pn}(h:fh E Y)(mD:Option Nat)(xs:List (Array Value))(ls:List (Nat×Loop))(fixed:List Nat):fh {E with mD:=mD,bM:=xs++E.bM,loops:=E.loops++ls,fixed:=fixed} Y:=by intro akX xs' ls' fixed' G S a w l k args K vals hs;simp only[<-bq]at hs⊢;rw[bq E.loops ls ls']at hs⊢;exact h akX (xs'++xs) (ls++ls') fixed' G S a w l k args K vals hs
theorem fh.push {Y:pn}(h:fh E Y)(a:Act):fh (E.push a) Y:=by have :=h.later none [a.tmps] [] (marksOf a.defers++E.fixed);simp only[bh]at this;exact this
def ni (C:Ctx)(call:iR):Prop:=∀(E:Env),E.C=C->∀(Y:pn)(g:FuncId)(args:List FV)(K:FV->an->Prop)(G:bl)(S:an)(a:Act)(w:World)(vals:List Value),bA E G S a w->fh (E.push a) Y->call Y g args K S->vals.length=args.length->(∀(i:Nat)(v:Value)(x:FV),vals[i]?=some v->args[i]?=some x->aU G w v x)->(∃fn,C.P.funcs[g]?=some fn/\fn.body.isNone=false/\(fn.name== "runtime.NumGoroutine")=false)/\CallsIn Fence.wide 0 C.P g vals.toArray w λe w'=>∃v x G' S',e=.returned v/\K x S'/\bA E G' S' a w'/\aU G' w' v x
theorem Qt {P:Program}{f:FuncId}{args:Array Value}{w:World}{R:Ending->World->Prop}(h:CallsIn Fence.wide 0 P f args w R):CallsIn E.jv 0 P f args w R:=by unfold Env.jv;split;exact h;exact CallsIn.inRound _ h
theorem zm {P:Program}{l:Nat}{f:FuncId}{tmps:Array Value}{assign body:Code}{w:World}{R:Ending->World->Prop}(h:RoundIn Fence.wide 0 P l f tmps assign body w R):RoundIn E.jv 0 P l f tmps assign body w R:=by unfold Env.jv;split;exact h;exact h
theorem zB {br:Nat->Nat->Prop}{cs:List Value}{xs:List AV}(h:cs.length=xs.length/\∀(i:Nat)(c:Value)(x:AV),cs[i]?=some c->xs[i]?=some x->dH br w c x)(hi:br=G.br):cs.length=(aH xs).length/\∀(i:Nat)(c:Value)(x:FV),cs[i]?=some c->(aH xs)[i]?=some x->aU G w c x:=by
 rw[eZ];refine⟨by simp[h.1],λi c x hc hx=>?_⟩;rw[aM]at hx;cases hq:xs[i]?with
 |none=>simp[hq]at hx
 |some y=>simp[hq]at hx;subst hx;exact .p _ _ (hi▸h.2 i c y hc hq)
theorem wp_bld (hs:bA E G S a w){f:Operand}{args:Array Operand}{types:Array TypeId}{g:FuncId}{first captured:Array Value}{ob:Nat}{bs:List UInt8}{rest:List FV}{K:an->Prop}(ho:o.op=.call ⟨.value f,args,types⟩)(hf:a.eval f=.func (.func g) first captured)(hr:(first++args.map a.eval++captured).toList.length=(FV.ptr ob 0::rest).length/\∀(i:Nat)(c:Value)(x:FV),(first++args.map a.eval++captured).toList[i]?=some c->(FV.ptr ob 0::rest)[i]?=some x->aU G w c x)(vQ:me S.dh ob=some bs)(h:Zj E.C S o.dst g ob bs rest K){next:Act->World->Prop}{Q:Exit->Act->World->Prop}(hn:∀S' a' w',K S'->nT E S' a' w'->next a' w'):BP E o a w next Q:=by
 unfold Zj at h;split at h;exact h.elim;rename_i xs hxs;obtain⟨out,r,⟨⟨fn,h1,h2,h3⟩,hc⟩,hk⟩:=h;generalize hvs:(first++args.map a.eval++captured)=vs at hr;obtain⟨vs⟩:=vs;match vs,hr with
  |[],hr=>simp at hr
  |v0::vs,hr=>
   obtain⟨b,rfl,hl⟩:=(hr.2 0 v0 _ rfl rfl).oT;obtain⟨-,b0,hl0,qS⟩:=hs.jr.at_ ob bs vQ;rw[hl]at hl0;obtain rfl:=aq hl0;have qX:=oa (G:=G) (w:=w) (cs:=vs) (xs:=rest) ⟨by simpa using hr.1,λi c x q1 q2=>hr.2 (i+1) c x (by simpa using q1) (by simpa using q2)⟩ hxs;obtain⟨-,l2,l3⟩:=hs.gW ob b hl;have hng:E.C.nt<=b:=by rcases l2 with l2|l2;have :=E.hn;omega;exact(E.hown b (E.CQ _ l2.2).1).1
   have :=hc G.br w b (G.row ob) vs hs.J.1 hs.J.2 hs.fJ hng (λr hr=>by rcases(hs.jr.row ob r hr).1 with h|h;have :=E.hn;omega;exact(E.hown r (E.hrows _ h.2)).1) (λi=>(l3 i).1) (λr i hr=>(hs.jr.row ob r hr).2.2.1 i) qS qX.1 qX.2;refine⟨λf _=>Env.gD f,?_⟩;have Tk:first++args.map a.eval++captured=(.pointer (some ⟨b,0,none⟩)::vs).toArray:=by rw[hvs]
   rw[Oper.semAt_eq _ _ _ (λc=>by rw[ho];simp),uu ho hf h1 h2 h3,Oper.uponIn_enter,Tk];refine⟨λh=>(by rw[Env.kU]at h;cases h),mY (Calls.mono this ?_)⟩;rintro e w' ⟨v,rfl,hv,hout,f1,f2,f3,f4,f5⟩;have WT:∀{G':bl},aU G' w' v (.p r):=λ{G'}=>.p _ _ (hv.keep (λ_ _ h=>h.elim) (λ_ _ _ h=>h.elim) (λ_ _ _ h=>h.elim));cases out with
   |some bs'=>
    obtain⟨row',adH,hrow⟩:=hout;have hlt:∀x,row'=some x->x<w'.heap.size:=λx hx=>by obtain⟨p,u,-,-,h6⟩:=adH;rw[hx]at h6;obtain⟨-,cap,cur,-,h7,-⟩:=h6;exact(bz.1 h7).1
    obtain⟨hg,-⟩:=hs.Vt (Vu:=Zh S.dh ob bs') (row':=row') vQ hl (by obtain⟨p,u,-,h6,-⟩:=adH;exact⟨_,_,h6⟩) (hrow.imp id λh=>h.imp id λ⟨x,q1,q2⟩=>⟨x,q1,q2,hlt x q1⟩) (λx hx=>by obtain⟨p,u,-,-,h6⟩:=adH;rw[hx]at h6;obtain⟨-,cap,cur,-,h7,-⟩:=h6;exact⟨_,_,_,h7⟩) f1 f2 f3 f4 f5 (λq bs2 hq=>(ZH hq).imp (λ⟨q1,q2⟩=>⟨q1,q2▸adH⟩) id);exact hn _ _ _ hk ⟨_,hg.put o.dst WT⟩
   |none=>obtain⟨hg,-⟩:=hs.Vt (Vu:=CI ob S.dh) (row':=none) vQ hl hout (.inr (.inl rfl)) (λx hx=>by cases hx) f1 f2 f3 f4 f5 (λq bs2 hq=>.inr (kW hq));exact hn _ _ _ hk ⟨_,hg.put o.dst WT⟩
theorem bA.Iq (hs:bA E G S a w){ob b:Nat}{cells:List FV}(vQ:Qv.getObj S.aK ob=some cells)(fZ:G.loc ob=some b)(hne:cells≠[]):∃cs T fr,w.heap[b]?=some (.cells cs T fr):=by obtain⟨b',h1,h2⟩:=hs.aK ob cells vQ;rw[fZ]at h1;obtain rfl:=aq h1;match cells,hne with|x::xs,_=>obtain⟨c,h3,-⟩:=h2 0 x rfl;unfold World.cell? at h3;split at h3;rename_i h4;exact⟨_,_,_,h4⟩;cases h3
theorem js (d:Nat):∀l:List AV,FV.fu d (aH l)=aH l|[]=>rfl|x::l=>by simp[aH,FV.fu,FV.kill,js d l]
theorem Ir (d:Nat)(c:List FV):∀l:List (Nat×List FV),eH d (setObj l d c)=eH d l|[]=>rfl|(u,i)::l=>by simp only[setObj];split;rename_i h;simp only[eH,h];rename_i h;simp only[eH,h];rw[Ir d c l]
theorem GU {ob:Nat}{cells cs:List FV}:∀{l:List (Nat×List FV)},Qv.getObj l ob=some cells->Qv.getObj (setObj l ob cs) ob=some cs:=by
 intro l;induction l with
 |nil=>intro h;cases h
 |cons p l ih=>obtain⟨u,i⟩:=p;intro h;simp only[Qv.getObj]at h;simp only[setObj];split at h;rename_i hb;simp only[hb,Qv.getObj];rename_i hb;simp only[hb,Qv.getObj];exact ih h
theorem bA.aiy (hs:bA E G S a w){ob b:Nat}{cells:List FV}{zs:List AV}{w':World}(vQ:Qv.getObj S.aK ob=some cells)(fZ:G.loc ob=some b)(hbc:∃cs T fr,w.heap[b]?=some (.cells cs T fr))(hlen:zs.length=cells.length)(hc:∀(i:Nat)(x:AV),zs[i]?=some x->∃c,w'.cell? ⟨b,i,none⟩=some c/\dH (lT G.br w.heap.size) w' c x)(hos:w'.os=w.os)(Qf:w'.tape=w.tape)(hout:w'.output=w.output)(hsz:w.heap.size<=w'.heap.size)(hblk:∀k,k<w.heap.size->k≠b->w'.heap[k]?=w.heap[k]?)(hsh:∀cs T fr,w.heap[b]?=some (.cells cs T fr)->∃cs',w'.heap[b]?=some (.cells cs' T fr)/\cs'.size=cs.size):bA E {G with br:=λb o=>G.br b o\/(w.heap.size<=b/\b<w'.heap.size)} (S.CL ob (aH zs)) a w':=by
 obtain⟨l1,l2,l3⟩:=hs.gW ob b fZ;obtain⟨cs,T,fr,hb⟩:=hbc;obtain⟨cs',hb',agD⟩:=hsh cs T fr hb;have CU:∀k i,G.br k i->k≠b:=λk i h e=>(l3 i).1 (e▸h);have hcell:∀k i,k<w.heap.size->k≠b->w'.cell? ⟨k,i,none⟩=w.cell? ⟨k,i,none⟩:=λk i h1 h2=>by unfold World.cell?;simp only[hblk k h1 h2]
 have FR:∀k i,k<w.heap.size->w'.frozen? ⟨k,i,none⟩=w.frozen? ⟨k,i,none⟩:=λk i h1=>by by_cases h2:k=b;subst h2;simp[World.frozen?,hb,hb'];unfold World.frozen?;simp only[hblk k h1 h2]
 have others:gy w w':=λk o hk ho=>by rw[hblk k (bz.1 hk).1 (λe=>by subst e;rw[hb]at hk;obtain rfl:=aq hk;simp[Obj.isCells]at ho)];exact hk
 have keep:∀v x,aU G w v x->aU {G with br:=λb o=>G.br b o\/(w.heap.size<=b/\b<w'.heap.size)} w' v x:=λv x hv=>hv.keep (λb o hi=>.inl hi) (λk o c hi hc=>by rw[hcell k o (hs.fJ k o hi) (CU k o hi)];exact hc) (others.qf _) (λ_ _ e=>e) (λ_ _ e=>e);have LF:∀o r,G.row o=some r->r≠b:=λo r h e=>(hs.jr.row o r h).2.2.2.1 ob (e▸fZ);refine⟨⟨hos.trans hs.kept.os,Qf.trans hs.kept.tape,hout.trans hs.kept.output,cg hs.kept.size hsz,λk hk hk'=>?_,λk c1 T1 f1 hk q=>?_⟩,hs.size,hs.ext'.keep rfl rfl rfl keep others (HY:=.more rfl rfl rfl rfl (λb i hi=>hi.imp id λhi=>hi.1) (λb hi=>.inl hi) λ_ _ h=>.inl h),?_,?_,?_,λi hi=>keep _ _ (hs.tmps i hi),λo cs2 ho=>?_,λo b2 ho=>?_,hs.fq,λo t b2 r q1 q2=>?_,λt b2 s e T2 h=>?_,hs.ew⟩;rw[hblk k (ef hk hs.kept.size) (E.Ny l2 hk hk')];exact hs.kept.block k hk hk';obtain⟨c2,q1,q2⟩:=hs.kept.shape k c1 T1 f1 hk q;by_cases hkb:k=b;subst hkb;obtain⟨c3,q3,q4⟩:=hsh c2 T1 f1 q1;exact⟨c3,q3,q4.trans q2⟩;exact⟨c2,by rw[hblk k (bz.1 q1).1 hkb];exact q1,q2⟩;refine hs.jr.keep rfl rfl (λo bs q=>⟨q,rfl,rfl⟩) (λo bs _ q=>?_) (λ_ _ e=>e) hsz (λo bs b2 q q2 e=>hblk b2 (hs.gW o b2 e).1 (λe2=>?_)) (λo r e=>hblk r (hs.jr.row o r e).2.1 (LF o r e)) (λo r i e hi=>hi.elim id λhi=>absurd (hs.jr.row o r e).2.1 oO) (λ_ _ _ _ e=>e) (λ_ _ t q _ e=>⟨t,q,e⟩);cases h':Qv.getObj (S.CL ob (aH zs)).aK o with
 |none=>rfl
 |some cs=>rcases rC h' with⟨rfl,-⟩|⟨-,h2⟩;rw[vQ]at q;cases q;rw[q]at h2;cases h2
 have :=hs.fq o ob b2 e (e2▸fZ);subst this;rw[vQ]at q2;cases q2;rintro k o (hi|⟨hi,_⟩);exact hs.nS k o hi;exact .inr (cg hs.kept.size hi);rintro k o (hi|⟨_,hi⟩);exact ef (hs.fJ k o hi) hsz;exact hi;rcases rC ho with⟨rfl,rfl⟩|⟨hne,ho⟩;refine⟨b,fZ,λi y hy=>?_⟩;rw[eZ,aM]at hy;cases hq:zs[i]?with
 |none=>simp[hq]at hy
 |some z=>simp only[hq,eW,bN]at hy;subst hy;obtain⟨c,h1,h2⟩:=hc i z hq;refine⟨c,h1,.p _ _ (h2.vR (λb o c hi hc=>⟨hi.imp id λh=>⟨h,World.block_lt_of_cell? w' _ hc⟩,hc⟩) λb es k hi hb=>⟨hi.imp id λh=>⟨h,(bz.1 hb).1⟩,hb⟩)⟩
 obtain⟨b2,h2,h3⟩:=hs.aK o cs2 ho;have Bf:b2≠b:=λe=>hne (hs.fq o ob b2 h2 (e▸fZ));exact⟨b2,h2,λi y hy=>let⟨c,h4,h5⟩:=h3 i y hy;⟨c,by rw[hcell b2 i (hs.gW o b2 h2).1 Bf];exact h4,keep _ _ h5⟩⟩;obtain⟨k1,k2,k3⟩:=hs.gW o b2 ho;refine⟨ef k1 hsz,k2,λi=>⟨?_,by rw[FR b2 i k1];exact(k3 i).2⟩⟩;rintro(hi|⟨hi,_⟩);exact(k3 i).1 hi;omega;refine lX.mono (hs.cL o t b2 r q1 q2) (λbs q=>⟨bs,q⟩) λcs q=>?_;rcases rC q with⟨rfl,rfl⟩|⟨-,q⟩;exact⟨cells,vQ,by rw[eZ,aj];exact hlen⟩;exact⟨cs,q,rfl⟩;obtain⟨k1,k2,⟨c1,f1,kt,ku⟩,k3⟩:=hs.gv t b2 s e T2 h;by_cases Bf:b2=b;subst Bf;rw[hb]at kt;injection aq kt with e1 e2 e3;subst e1;subst e2;subst e3;refine⟨ef k1 hsz,k2,⟨_,_,hb',ku⟩,λi hi hi'=>?_⟩;obtain⟨⟨c,k4⟩,k5,k6⟩:=k3 i hi hi';refine⟨?_,by rw[FR b2 i k1];exact k5,?_⟩;have hlt:i<cs.size:=by simp only[World.cell?,hb]at k4;exact(bz.1 (by simpa using k4)).1
 exact⟨cs'[i]'oO,by simp[World.cell?,hb',agD▸hlt]⟩;rintro(hi|⟨hi,_⟩);exact k6 hi;omega;refine⟨ef k1 hsz,k2,⟨c1,f1,by rw[hblk b2 k1 Bf];exact kt,ku⟩,λi hi hi'=>?_⟩;obtain⟨⟨c,k4⟩,k5,k6⟩:=k3 i hi hi';refine⟨⟨c,by rw[hcell b2 i k1 Bf];exact k4⟩,by rw[FR b2 i k1];exact k5,?_⟩;rintro(hi|⟨hi,_⟩);exact k6 hi;omega
theorem wp_obj (hs:bA E G S a w){f:Operand}{args:Array Operand}{types:Array TypeId}{g:FuncId}{first captured:Array Value}{xs:List FV}{K:an->Prop}(ho:o.op=.call ⟨.value f,args,types⟩)(hf0:a.eval f=.func (.func g) first captured)(hr:(first++args.map a.eval++captured).toList.length=xs.length/\∀(i:Nat)(c:Value)(x:FV),(first++args.map a.eval++captured).toList[i]?=some c->xs[i]?=some x->aU G w c x)(h:Pw E.C S o.dst g xs K){next:Act->World->Prop}{Q:Exit->Act->World->Prop}(hn:∀S' a' w',K S'->nT E S' a' w'->next a' w'):BP E o a w next Q:=by
 unfold Pw at h;split at h;rename_i ob rest;split at h;rename_i cells as1 vQ has;split at h;rename_i z zs hcells;obtain⟨R,⟨⟨fn,h1,h2,h3⟩,hc⟩,hk⟩:=h;obtain⟨b,fZ,hcs⟩:=hs.aK ob cells vQ;obtain⟨l1,l2,l3⟩:=hs.gW ob b fZ;obtain⟨g1,g2⟩:=FV.jk hcells;generalize hvs:(first++args.map a.eval++captured)=vs0 at hr;obtain⟨vs⟩:=vs0;match vs,hr with
  |[],hr=>simp at hr
  |v::vs,hr=>
   have hv:=hr.2 0 v _ rfl rfl;obtain⟨b',rfl,hb'⟩:=hv.oT;rw[fZ]at hb';obtain rfl:=aq hb';have Tk:=oa (cs:=vs) (xs:=rest) (ys:=as1) ⟨by simpa using hr.1,λi c x q1 q2=>hr.2 (i+1) c x (by simpa using q1) (by simpa using q2)⟩ has;have hJ:=hs.J;have hng:E.C.nt<=b:=by rcases l2 with l2|l2;have :=E.hn;omega;exact(E.hown b (E.CQ _ l2.2).1).1
   have :=hc G.br w b vs hJ.1 hJ.2 hs.fJ hng l1 l3 (λi x hx=>by obtain⟨y,hy,hxy⟩:=g2 i x hx;obtain⟨c,q1,q2⟩:=hcs i y hy;exact⟨c,q1,q2.fA hxy⟩) Tk.1 Tk.2;refine⟨λf _=>Env.gD f,?_⟩;rw[Oper.semAt_eq _ _ _ (λc=>by rw[ho];simp),uu ho hf0 h1 h2 h3,Oper.uponIn_enter,hvs];refine⟨λh=>(by rw[Env.kU]at h;cases h),mY (Calls.mono this ?_)⟩;rintro e w' ⟨u,r,cells',rfl,hR,hl,oD,hc',q1,q2,q3,q4,q5,q6⟩;have hne:cells≠[]:=λe=>by subst e;simp at g1
   have hs':=hs.aiy vQ fZ (hs.Iq vQ fZ hne) (zs:=cells') (hl.trans g1) hc' q1 q2 q3 q4 q5 q6;refine hn _ _ _ (hk r cells' hR) ⟨_,hs'.put o.dst (.p _ _ (oD.vR (λb o c hi hc=>⟨hi.imp id λh=>⟨h,World.block_lt_of_cell? w' _ hc⟩,hc⟩) λb es k hi hb=>⟨hi.imp id λh=>⟨h,(bz.1 hb).1⟩,hb⟩))⟩
 exact h.elim;exact h.elim;rename_i ob T bP rest;split at h;rename_i cells as1 ak0 has;split at h;rename_i zs hcells;obtain⟨hon,vQ⟩:=jl ak0;obtain⟨R,⟨⟨fn,h1,h2,h3⟩,hc⟩,hk⟩:=h;obtain⟨b,fZ,hcs⟩:=hs.aK ob cells vQ;obtain⟨l1,l2,l3⟩:=hs.gW ob b fZ;obtain⟨g1,g2⟩:=FV.jk hcells;generalize hvs:(first++args.map a.eval++captured)=vs0 at hr;obtain⟨vs⟩:=vs0;match vs,hr with
  |[],hr=>simp at hr
  |v::vs,hr=>
   have hv:=hr.2 0 v _ rfl rfl;obtain⟨n,c,b',rfl,p1,p2,p3,p4⟩:=hv.Hq;rw[fZ]at p1;obtain rfl:=aq p1;have Tk:=oa (cs:=vs) (xs:=rest) (ys:=as1) ⟨by simpa using hr.1,λi c x q1 q2=>hr.2 (i+1) c x (by simpa using q1) (by simpa using q2)⟩ has;have hJ:=hs.J;have hng:E.C.nt<=b:=by rcases l2 with l2|l2;have :=E.hn;omega;exact(E.hown b (E.CQ _ l2.2).1).1
   have hlen:=(hs.cL ob ob b _ fZ p2).2.2 cells vQ;obtain⟨-,-,⟨cs,fr,tt,-⟩,-⟩:=hs.gv _ _ _ _ _ p2;have :=hc G.br w b n c vs hJ.1 hJ.2 hs.fJ hng l1 l3 ⟨cs,fr,tt⟩ (g1.trans hlen) p3 p4 (λi x hx=>by obtain⟨y,hy,hxy⟩:=g2 i x hx;obtain⟨c,q1,q2⟩:=hcs i y hy;exact⟨c,q1,q2.fA hxy⟩) Tk.1 Tk.2;refine⟨λf _=>Env.gD f,?_⟩;rw[Oper.semAt_eq _ _ _ (λc=>by rw[ho];simp),uu ho hf0 h1 h2 h3,Oper.uponIn_enter,hvs];refine⟨λh=>(by rw[Env.kU]at h;cases h),mY (Calls.mono this ?_)⟩;rintro e w' ⟨u,r,ys,full,rfl,hR,hl,hres,hc',q1,q2,q3,q4,q5,q6⟩;have hs':=hs.aiy vQ fZ ⟨cs,T,fr,tt⟩ (zs:=full) (hl.trans g1) hc' q1 q2 q3 q4 q5 q6;have hk:=hk r ys hR;unfold Zn at hk;cases r with
   |false=>obtain⟨rfl,rfl⟩:=hres;exact hn _ _ _ hk ⟨_,hs'.put o.dst (v:=.tuple #[]) (x:=.p (.eN [])) (jU _ _)⟩
   |true=>
    obtain⟨m,rfl,hm,rfl⟩:=hres;simp only at hk;split at hk;rename_i d hd;obtain⟨zs',rfl,hk⟩:=hk;have adD:=hs'.Vw (k:=ob) (xs:=aH full) (GU vQ) fZ p2 (n:=m*bP) (fG _ hm) (fG _ p3);have e1:FV.fu ob ((aH full).take (m*bP))=aH (full.take (m*bP)):=by rw[show(aH full).take (m*bP)=aH (full.take (m*bP))from by rw[eZ,eZ,mJ],js]
    have e2:eH ob (S.CL ob (aH full)).aK=eH ob S.aK:=Ir ob _ S.aK;rw[e1,e2]at adD;rw[hd];exact hn _ _ _ hk ⟨_,adD.put (some d) (v:=.slice (some ⟨b,0,none⟩) m c) (x:=.gH ob T bP) (.gH ob T bP m c b fZ (by simp only[if_true]) oO p4)⟩;exact hk.elim
 exact h.elim;exact h.elim;rcases h with h|h;obtain⟨d,ks,vs,hf,h⟩:=h;split at h;rename_i ys hys;obtain⟨R,hc,hk⟩:=h;obtain⟨G',hs',up⟩:=hs.Th hf;refine wp_call hs' ho hf0 (oa (xs:=FV.YO d (.mp ks vs) xs) ⟨by rw[FV.wP,aj];exact hr.1,λi c x q1 q2=>?_⟩ hys) hc λr v w' hR hb hok=>?_;rw[FV.wP,aM]at q2;cases hq:xs[i]?with
 |none=>simp[hq]at q2
 |some y=>simp[hq]at q2;subst q2;exact up _ _ (hr.2 i c y q1 hq)
 obtain⟨YV,hk'⟩:=Hi (hk r hR);exact hn _ _ _ hk' (uc hs' hb hok YV);exact h.elim;obtain⟨d,ys,h⟩:=h;split at h;exact h.elim;rename_i cells hcell;obtain⟨hy,h1,h⟩:=h;split at h;rename_i zs hzs;obtain⟨R,hc,hk⟩:=h;obtain⟨G',hs',up⟩:=hs.afP (jl hcell).1 (jl hcell).2 hy h1;refine wp_call hs' ho hf0 (oa (xs:=FV.SJ d ys xs) ⟨by rw[FV.vF,aj];exact hr.1,λi c x q1 q2=>?_⟩ hzs) hc λr v w' hR hb hok=>?_;rw[FV.vF,aM]at q2;cases hq:xs[i]?with
 |none=>simp[hq]at q2
 |some y=>simp[hq]at q2;subst q2;exact up _ _ (hr.2 i c y q1 hq)
 obtain⟨YV,hk'⟩:=Hi (hk r hR);exact hn _ _ _ hk' (uc hs' hb hok YV);exact h.elim
theorem wp_lentC (hs:bA E G S a w){f:Operand}{args:Array Operand}{types:Array TypeId}{g:FuncId}{first captured:Array Value}{xs:List FV}{K:an->Prop}(ho:o.op=.call ⟨.value f,args,types⟩)(hf:a.eval f=.func (.func g) first captured)(hr:(first++args.map a.eval++captured).toList.length=xs.length/\∀(i:Nat)(c:Value)(x:FV),(first++args.map a.eval++captured).toList[i]?=some c->xs[i]?=some x->aU G w c x)(h:Vi E.C S o.dst g xs K){next:Act->World->Prop}{Q:Exit->Act->World->Prop}(hn:∀S' a' w',K S'->nT E S' a' w'->next a' w'):BP E o a w next Q:=by
 obtain⟨ρ,aK,m,l,az,R,rfl,⟨c1,c2,c3,c4,c5⟩,hsub,hm,Tf,⟨⟨fn,h1,h2,h3⟩,hc⟩,hk⟩:=h;obtain⟨loc,ZR⟩:∃loc:Nat->Option Nat,∀o,loc o=if hU o (jF aK)=true then G.loc (Hj ρ o)else none:=⟨_,λ_=>rfl⟩;obtain⟨mp,agF⟩:∃mp:Nat->Option Nat,∀o,mp o=if o=m then G.mp (Hj ρ o)else none:=⟨_,λ_=>rfl⟩;have fZ:∀o b,loc o=some b->hU o (jF aK)=true/\G.loc (Hj ρ o)=some b:=λo b h=>by rw[ZR]at h;split at h;rename_i h';exact⟨h',h⟩;cases h
 have hmp:∀o b,mp o=some b->o=m/\G.mp (Hj ρ o)=some b:=λo b h=>by rw[agF]at h;split at h;rename_i h';exact⟨h',h⟩;cases h
 have hJ:=hs.J;have hng:∀o b,E.mine o b->E.C.nt<=b:=λo b h=>by rcases E.CR h with h|h;have :=E.hn;omega;exact(E.hown b h).1
 have back:∀v x,x.only (jF aK) m=true->aU G w v (x.nm ρ)->aU (uQ G.br loc mp) w v x:=λv x hx hv=>hv.back (λ_ _ h=>h) (λo b q1 q2=>by rw[ZR,ag q1];exact q2) (λb q=>by rw[agF,ag rfl];exact q) x hx rfl;obtain⟨B,gL,es,b1,b2,b3,b4,b5⟩:=hs.ext'.mps.at_ _ _ hm;obtain⟨d1,d2,-⟩:=hs.ext'.mps.loc _ _ b1;have agB:B<w.heap.size:=(bz.1 b2).1;have Qg:∀o b,loc o=some b->∃cells,Qv.getObj aK o=some cells/\Qv.getObj S.aK (Hj ρ o)=some (FV.HN ρ cells)/\iK o=true/\FV.yX (jF aK) m cells=true/\FV.HN ρ cells≠[]:=λo b h=>by obtain⟨cells,q⟩:=AJ.1 (oK.1 (fZ o b h).1);obtain⟨g1,g2,g3⟩:=tu c2 q;exact⟨cells,q,zy hsub q,g1,g2,λe=>g3 (by have :=aY List.length e;rw[qk]at this;exact ck.1 this)⟩
 have qS:Zp E.C.nt G.br loc mp w aK m l:=by refine⟨λo b q=>?_,λo cells q=>?_,λo o' b q q'=>?_,λo b q=>?_,⟨B,gL,es,by rw[agF,ag rfl];exact b1,b2,b3,by rw[b4,wQ,aj],λi e p he hp=>?_⟩,λo o' b q q'=>?_⟩;obtain⟨q1,q2⟩:=fZ o b q;obtain⟨cells,k1,k2,k3,k4,k5⟩:=Qg o b q;obtain⟨l1,l2,l3⟩:=hs.gW _ _ q2;exact⟨k3,q1,hs.Iq k2 q2 k5,hng _ _ l2,l1,l3⟩;obtain⟨g1,g2,g3⟩:=tu c2 q;obtain⟨b,h4,h5⟩:=hs.aK _ _ (zy hsub q);refine⟨b,by rw[ZR,ag (oK.2 (AJ.2 ⟨_,q⟩))];exact h4,λi x hx=>?_⟩;obtain⟨c,h6,h7⟩:=h5 i (x.nm ρ) (by rw[oW,hx];rfl);exact⟨c,h6,back _ _ (pN g2 hx) h7⟩;exact LG c5 (oK.1 (fZ o b q).1) (oK.1 (fZ o' b q').1) (hs.fq _ _ b (fZ o b q).2 (fZ o' b q').2);obtain⟨rfl,q2⟩:=hmp o b q;rw[b1]at q2;obtain rfl:=aq q2;exact⟨rfl,c3,hng _ _ d1,agB,d2⟩;have :=b5 i e (p.1,p.2.nm ρ) he (by rw[wQ,aM,hp];rfl);exact⟨this.1,back _ _ (EV c4 hp) this.2⟩;exact hs.ext'.mps.apart _ _ b (hmp o b q).2 (fZ o' b q').2
 have :=hc G.br loc mp w (first++args.map a.eval++captured).toList hJ.1 hJ.2 hs.fJ qS (by rw[hr.1,qk]) λi v x q1 q2=>back v x (pN c1 q2) (hr.2 i v _ q1 (by rw[oW,q2];rfl));refine⟨λf _=>Env.gD f,?_⟩;rw[Oper.semAt_eq _ _ _ (λc=>by rw[ho];simp),uu ho hf h1 h2 h3,Oper.uponIn_enter];refine⟨λh=>(by rw[Env.kU]at h;cases h),mY (Calls.mono this ?_)⟩;rintro e w' ⟨v,r,l',rfl,hR,oD,hO,⟨B',BM,es',e1,e2,e3,e4,e5⟩,p1,p2,p3,p4,p5⟩;have eB:=(hmp m B' e1).2;rw[b1]at eB;obtain rfl:=aq eB;obtain⟨w1,hw1⟩:∃w1,w'.putObj B (.map es.toArray gL)=w1:=⟨_,rfl⟩;have aiz:w1.heap[B]?=some (.map es.toArray gL):=by rw[<-hw1];exact World.putObj_heap_same (ef agB p4)
 have agG:∀k,k≠B->w1.heap[k]?=w'.heap[k]?:=λk hk=>by rw[<-hw1];exact World.putObj_heap_other hk
 have ZS:w1.heap.size=w'.heap.size:=by rw[<-hw1];exact World.putObj_size
 have ZT:∀b i,w1.cell? ⟨b,i,none⟩=w'.cell? ⟨b,i,none⟩:=λb i=>by rw[<-hw1];exact FW e2 rfl rfl b i
 have conv:∀{v:Value}{x:FV},aU (uQ (lT G.br w.heap.size) loc mp) w' v x->aU {G with br:=λb o=>G.br b o\/(w.heap.size<=b/\b<w1.heap.size)} w1 v (x.nm ρ):=λ{v x} hv=>by
  have h1:aU (uQ (λb o=>G.br b o\/(w.heap.size<=b/\b<w1.heap.size)) loc mp) w1 v x:=by refine hv.vR (λb o c hi hc=>⟨?_,by rw[ZT];exact hc⟩) (λb es k hi hb=>⟨?_,?_⟩) (λ_ _ h=>h) (λ_ _ h=>h);have :=World.block_lt_of_cell? w' _ hc;exact hi.imp id λh=>⟨h,by rw[ZS];exact this⟩;have :=(bz.1 hb).1;exact hi.imp id λh=>⟨h,by rw[ZS];exact this⟩;rw[agG b (λe=>by subst e;exact hi.elim (d2 0) (λh=>by have :w.heap.size<=b:=h;omega))];exact hb
  exact h1.fwd rfl (λo b q=>(fZ o b q).2) λo b q=>(hmp o b q).2
 have aiA:∀{v:Value}{x:AV},dH (lT G.br w.heap.size) w' v x->dH (λb o=>G.br b o\/(w.heap.size<=b/\b<w1.heap.size)) w1 v x:=λ{v x} hv=>by
  have :=conv (.p v x hv);cases this with
  |p _ _ h=>exact h
 have hblk:∀k,k<w.heap.size->(¬∃o,loc o=some k)->w1.heap[k]?=w.heap[k]?:=λk hk hd=>by by_cases hkB:k=B;subst hkB;rw[aiz,b2];rw[agG k hkB];exact p5 k hk (λo e=>hd ⟨o,e⟩) λo e=>hkB (by obtain⟨rfl,q⟩:=hmp o k e;rw[b1]at q;exact(aq q).symm)
 have hA:=hs.aix (w':=w1) (λk=>∃o,loc o=some k) (λk ⟨o,hk⟩=>by
  obtain⟨cells,k1,k2,k3,k4,k5⟩:=Qg o k hk;obtain⟨q1,q2⟩:=hO o k hk;have hkB:k≠B:=λe=>hs.ext'.mps.apart _ _ _ b1 (e▸(fZ o k hk).2);refine⟨Hj ρ o,FV.HN ρ cells,(fZ o k hk).2,k2,hs.Iq k2 (fZ o k hk).2 k5,λcs T fr hcs=>?_,λi x hx=>?_⟩;rw[agG k hkB];exact q2 cs T fr hcs;rw[oW]at hx;cases hy:cells[i]?with
  |none=>simp[hy]at hx
  |some y=>simp[hy]at hx;subst hx;obtain⟨c,k6,k7⟩:=q1 cells i y k1 hy;exact⟨c,by rw[ZT];exact k6,conv k7⟩) ((by rw[<-hw1];rfl:w1.os=w'.os).trans p1) ((by rw[<-hw1];rfl:w1.tape=w'.tape).trans p2) ((by rw[<-hw1];rfl:w1.output=w'.output).trans p3) (by rw[ZS];exact p4) hblk
 have hB2:=hA.NN (ob:=Hj ρ m) (b:=B) (es:=es) (gL:=gL) (es':=es') (BM:=BM) (l':=yO (FV.nm ρ) l') b1 aiz e3 (by rw[e4,wQ,aj]) (λi e p he hp=>by
  rw[wQ,aM]at hp;cases hq:l'[i]?with
  |none=>simp[hq]at hp
  |some q=>simp[hq]at hp;subst hp;exact⟨aiA (e5 i e q he hq).1,conv (e5 i e q he hq).2⟩) (λT z k q=>by rw[Tf]at q;cases q)
 have hw2:w1.putObj B (.map es'.toArray BM)=w':=by rw[<-hw1,Tj];exact FX e2
 rw[hw2]at hB2;refine hn _ _ _ (hk r l' hR) ⟨_,hB2.put o.dst (.p _ _ (oD.vR (λb o c hi hc=>⟨hi.imp id λh=>⟨h,by rw[ZS];exact World.block_lt_of_cell? w' _ hc⟩,hc⟩) λb es k hi hb=>⟨hi.imp id λh=>⟨h,by rw[ZS];exact(bz.1 hb).1⟩,hb⟩))⟩
theorem dH.HM {br uM:Nat->Nat->Prop}{w:World}{v:Value}{x:AV}(h:dH br w v x)(hx:x.HM=true):dH uM w v x:=by
 cases h with
 |eN cs xs hl hr=>exact .eN cs xs hl λi c x h1 h2=>(hr i c x h1 h2).flat (WD hx x (bW h2))
 |bool b=>exact .bool b
 |int k n=>exact .int k n
 |str s=>exact .str s
 |yU=>exact .yU
 |EG=>exact .EG
 |uh=>exact .uh
 |wM=>exact .wM
 |_=>simp[AV.HM,AV.flat]at hx
def zC (w:World):Nat->Nat->Prop:=λb _=>b<w.heap.size
theorem dH.all (hs:bA E G S a w){v:Value}{x:AV}(h:dH G.br w v x):dH (zC w) w v x:=h.keep (λb o h=>hs.fJ b o h) (λ_ _ _ _ h=>h) (.refl _ _)
mutual theorem ZU (hs:bA E G S a w):∀{v:Value}{x:FV}{y:AV},aU G w v x->FN S x y->dH (zC w) w v y
 |v,x,y,hx,.plain h=>dH.all hs (hx.fA h)
 |v,.gH ob T bP,.sl xss,hx,.gH (cells:=cells) h1 h2 h3=>by
  obtain⟨n,c,b,rfl,p1,p2,p3,p4⟩:=hx.Hq;obtain⟨-,vQ⟩:=jl h1;have hlen:=(hs.cL ob ob b _ p1 p2).2.2 cells vQ;obtain⟨b',Bp,hcs⟩:=hs.aK ob cells vQ;rw[p1]at Bp;obtain rfl:=aq Bp;have g:=pO hs h2;have hfl:xss.flatten.length=xss.length*bP:=ic λzs hz=>(h3 zs hz).1;have hn:n=xss.length:=by
   have :xss.length*bP=n*bP:=by rw[<-hfl,g.1];exact hlen
   exact(gP p4 this).symm
  subst hn;have hb:=(hs.gW ob b p1).1;have get:∀(i:Nat)(ys:List AV)(j:Nat)(y:AV),xss[i]?=some ys->ys[j]?=some y->∃u,w.cell? ⟨b,i*bP+j,none⟩=some u/\dH (zC w) w u y:=λi ys j y q1 q2=>by
   have q:=nG (λzs hz=>(h3 zs hz).1) q1 q2;have hlt:i*bP+j<cells.length:=by rw[<-g.1];exact(aI.1 q).1
   obtain⟨c,k1,k2⟩:=hcs _ _ (ay hlt);exact⟨c,k1,g.2 _ _ _ _ (ay hlt) q k2⟩
  refine .sl b 0 c bP xss (λi j=>(w.cell? ⟨b,i*bP+j,none⟩).getD undef) (λi ys q=>(h3 ys (bW q)).1) (λi ys j y q1 q2=>(h3 ys (bW q1)).2 y (bW q2)) (λi ys j y q1 q2=>?_) (λi ys j y q1 q2=>hb) (λi ys j y q1 q2=>?_) p3;obtain⟨u,k1,k2⟩:=get i ys j y q1 q2;rw[dF,k1];rfl;obtain⟨u,k1,k2⟩:=get i ys j y q1 q2;rw[k1];exact k2
 |v,.ptr ob 0,.imp ys,hx,.ptr (cells:=cells) h1 h2 h3=>by
  obtain⟨b,rfl,p1⟩:=hx.oT;obtain⟨-,vQ⟩:=jl h1;have hb:=(hs.gW ob b p1).1;obtain⟨b',Bp,hcs⟩:=hs.aK ob cells vQ;rw[p1]at Bp;obtain rfl:=aq Bp;have g:=pO hs h2;have get:∀(j:Nat)(y:AV),ys[j]?=some y->∃u,w.cell? ⟨b,j,none⟩=some u/\dH (zC w) w u y:=λj y q=>by
   have hlt:j<cells.length:=by rw[<-g.1];exact(aI.1 q).1
   obtain⟨c,k1,k2⟩:=hcs _ _ (ay hlt);exact⟨c,k1,g.2 _ _ _ _ (ay hlt) q k2⟩
  refine .imp b 0 ys (λj=>(w.cell? ⟨b,j,none⟩).getD undef) (λj y q=>h3 y (bW q)) (λj y q=>?_) (λj y q=>hb) (λj y q=>?_);obtain⟨u,k1,k2⟩:=get j y q;rw[dF,k1];rfl;obtain⟨u,k1,k2⟩:=get j y q;rw[k1];exact k2
 |v,.gw ob,.mp ks vs,hx,.gw (l:=l) h1 h2 h3=>by
  cases hx with
  |gw _ b0 hm=>
   obtain⟨b,gL,es,p1,p2,p3,p4,p5⟩:=hs.ext'.mps.at_ ob l h1;rw[hm]at p1;obtain rfl:=aq p1;have hb:b0<w.heap.size:=(bz.1 p2).1;have g:=pO hs h3;have hkl:ks.length=l.length:=by rw[<-h2,nY,aj]
   refine .mp b0 gL es ks vs oO (by rw[g.1,AG,aj];omega) hb p2 p3 (λi e x q1 q2=>?_) (λi e x q1 q2=>?_);have FQ:i<l.length:=by have :=(aI.1 q1).1;omega
   have :=(p5 i e _ q1 (ay FQ)).1;rw[<-h2,nY,aM,ay FQ]at q2;obtain rfl:=aq q2;exact dH.all hs this;have FQ:i<l.length:=by have :=(aI.1 q1).1;omega
   have :=(p5 i e _ q1 (ay FQ)).2;exact g.2 i _ _ _ (by rw[AG,aM,ay FQ];rfl) q2 this
 |v,.fn ff fs cs,.fn _ a b,hx,.fn h1 h2=>by
  cases hx with
  |fn _ vs us _ _ q1 q2 q3 q4=>
   have g1:=pO hs h1;have g2:=pO hs h2;refine .fn _ vs us a b (q1.trans g1.1.symm) (q2.trans g2.1.symm) (λi c x k1 k2=>?_) (λi c x k1 k2=>?_);have hlt:i<fs.length:=by rw[<-g1.1];exact(aI.1 k2).1
   exact g1.2 i _ _ _ (ay hlt) k2 (q3 i c _ k1 (ay hlt));have hlt:i<cs.length:=by rw[<-g2.1];exact(aI.1 k2).1
   exact g2.2 i _ _ _ (ay hlt) k2 (q4 i c _ k1 (ay hlt))
 |v,.agg xs,.agg ys,hx,.agg h1 h2=>by
  cases hx with
  |agg vs _ q1 q2=>
   have g1:=pO hs h1;refine .agg vs ys (q1.trans g1.1.symm) h2 (λi c x k1 k2=>?_);have hlt:i<xs.length:=by rw[<-g1.1];exact(aI.1 k2).1
   exact g1.2 i _ _ _ (ay hlt) k2 (q2 i c _ k1 (ay hlt)) theorem pO (hs:bA E G S a w):∀{xs:List FV}{ys:List AV},vU S xs ys->ys.length=xs.length/\∀(i:Nat)(x:FV)(y:AV)(v:Value),xs[i]?=some x->ys[i]?=some y->aU G w v x->dH (zC w) w v y
 |xs,ys,.plain h=>by obtain⟨g1,g2⟩:=FV.jk h;refine⟨g1,λi x y v q1 q2 q3=>?_⟩;obtain⟨x',k1,k2⟩:=g2 i y q2;rw[q1]at k1;obtain rfl:=aq k1;exact dH.all hs (q3.fA k2)
 |[],[],.nil=>⟨rfl,λi x y v q1=>by simp at q1⟩
 |x::xs,y::ys,.cons h1 h2=>by
  have ih:=pO hs h2;refine⟨by simp[ih.1],λi x' y' v q1 q2 q3=>?_⟩;cases i with
  |zero=>simp at q1 q2;subst q1;subst q2;exact ZU hs q3 h1
  |succ i=>exact ih.2 i x' y' v (by simpa using q1) (by simpa using q2) q3 end
theorem WU (hs:bA E G S a w){vs:List Value}{xs:List FV}{ys:List AV}(hr:vs.length=xs.length/\∀(i:Nat)(c:Value)(x:FV),vs[i]?=some c->xs[i]?=some x->aU G w c x)(h:vU S xs ys):vs.length=ys.length/\∀(i:Nat)(c:Value)(y:AV),vs[i]?=some c->ys[i]?=some y->dH (zC w) w c y:=by
 have g:=pO hs h;refine⟨hr.1.trans g.1.symm,λi c y q1 q2=>?_⟩;have hlt:i<xs.length:=by rw[<-g.1];exact(aI.1 q2).1
 exact g.2 i _ _ _ (ay hlt) q2 (hr.2 i c _ q1 (ay hlt))
theorem wp_lend (hs:bA E G S a w){f:Operand}{args:Array Operand}{types:Array TypeId}{g:FuncId}{first captured:Array Value}{xs:List FV}{K:an->Prop}(ho:o.op=.call ⟨.value f,args,types⟩)(hf:a.eval f=.func (.func g) first captured)(hr:(first++args.map a.eval++captured).toList.length=xs.length/\∀(i:Nat)(c:Value)(x:FV),(first++args.map a.eval++captured).toList[i]?=some c->xs[i]?=some x->aU G w c x)(h:Zo E.C S o.dst g xs K){next:Act->World->Prop}{Q:Exit->Act->World->Prop}(hn:∀S' a' w',K S'->nT E S' a' w'->next a' w'):BP E o a w next Q:=by obtain⟨ys,R,hl,⟨⟨fn,h1,h2,h3⟩,hc⟩,hk⟩:=h;obtain⟨r1,r2⟩:=WU hs hr hl;have hJ:=hs.J;have :=hc (zC w) w (first++args.map a.eval++captured).toList ⟨hJ.1.1,λg xs hg=>dH.all hs (hJ.1.2 g xs hg)⟩ hJ.2 (λb o h=>h) r1 r2;refine⟨λf _=>Env.gD f,?_⟩;rw[Oper.semAt_eq _ _ _ (λc=>by rw[ho];simp),uu ho hf h1 h2 h3,Oper.uponIn_enter];refine⟨λh=>(by rw[Env.kU]at h;cases h),mY (Calls.mono this ?_)⟩;rintro e w' ⟨v,r,rfl,hR,hok,hb⟩;obtain⟨⟨x,rfl,hx⟩,hk'⟩:=hk r hR;obtain⟨YV,hk'⟩:=Hi hk';have hok:oz G.br w.heap.size w' v (.val x):=dH.HM (br:=lT (zC w) w.heap.size) hok hx;obtain⟨G',hg⟩:=uc hs (dst:=o.dst) hb hok YV;exact hn _ _ _ hk' ⟨G',hg⟩
theorem wp_evClear (hs:bA E G S a w){K:an->Prop}{x:Operand}{t:TypeId}(ho:o.op=.call ⟨.builtin .clear,#[x],#[t]⟩)(h:Nx E.C t o.dst S (S.val x) K){next:Act->World->Prop}{Q:Exit->Act->World->Prop}(hn:∀S' a' w',K S'->nT E S' a' w'->next a' w'):BP E o a w next Q:=by
 have Hr:=aU.val hs x;generalize S.val x=vx at h Hr;unfold Nx at h;split at h;rename_i k bx T bP;split at h;rename_i e _ ht;have KD:=(E.C.ok ht).slice;split at h;exact h.elim;rename_i j hj;split at h;rename_i xs hb hxs;obtain rfl:=aN hb;obtain⟨hkn,hxs⟩:=jl hxs;obtain⟨hone,N,hN,zs,rfl,hK⟩:=h;obtain⟨z,hz,GQ⟩:=(E.C.ok hj).zeroV w;have aiC:=(E.C.ok hj).len;generalize LD:a.eval x=vv at Hr;cases Hr with
 |uK _ _ _ _ n' c b off p1 p2 p0 p3 p4=>
  have hxl:=(hs.cL _ _ _ _ p1 p2).2.2 xs hxs;simp only at hxl;have hn':bx+N=n':=gP p4 (hN.symm.trans hxl);obtain rfl:N=n'-bx:=oO
  have hrl:=(si (j.zero.map FV.iC) (n'-bx)).1;have BO:gY xs (bx*j.size) (pV (n'-bx) (j.zero.map FV.iC))=some (xs.take (bx*j.size)++pV (n'-bx) (j.zero.map FV.iC)):=by refine NL ?_;rw[hrl,aj,aiC,hN,bK]
  have hall:jW (pV (n'-bx) (j.zero.map FV.iC))=true:=by
   generalize n'-bx=q;induction q with
   |zero=>rfl
   |succ q ih=>refine rz.2 λy hy=>?_;rw[pV,bk]at hy;exact hy.elim (λq=>rz.1 hone y q) (λq=>rz.1 ih y q)
  have oD:aU G w (.agg (pV (n'-bx) j.zero).toArray) (.agg (pV (n'-bx) (j.zero.map FV.iC))):=by rw[Il];exact .agg _ _ (rB (G:=G) (w:=w) _).1 (rB (G:=G) (w:=w) _).2
  obtain⟨hg,hrun⟩:=zo hs hxs p1 oD (by exact hall) (by exact BO);have hoff:off=bx*j.size\/n'-bx=0:=by by_cases hlt:bx<c;exact .inl (p0.2 hlt);exact .inr oO
  have mF:∀ty,(Builtin.clear_ #[t] ty #[.slice (some ⟨b,off,none⟩) (n'-bx) (c-bx)]).run E.C.P w=.ok (.tuple #[]) (w.setCells b (bx*j.size) (pV (n'-bx) j.zero)):=λty=>by rcases hoff with rfl|h0;have :=Te (P:=E.C.P) w t e ty z KD hz b (bx*j.size) (n'-bx) (c-bx) (by rw[GQ];exact hrun);rwa[GQ]at this;rw[h0];simp[Builtin.clear_,run_underlying KD];rfl
  have hr:(execOp a.eval o).run E.C.P w=.ok (.value (.tuple #[])) (w.setCells b (bx*j.size) (pV (n'-bx) j.zero)):=by simp[execOp,ho,resolve,invoke,builtin,LD,mF]
  refine wp_value hr (hn _ _ _ hK ⟨G,hg.put o.dst (v:=undef) (jU _ _)⟩)
 exact h.elim;exact h.elim;exact h.elim
theorem wp_inl (hs:bA E G S a w){call:iR}{Y:pn}(dO:ni E.C call)(hY:fh E Y){f:Operand}{args:Array Operand}{types:Array TypeId}{g:FuncId}{first captured:Array Value}{xs:List FV}{K:an->Prop}(ho:o.op=.call ⟨.value f,args,types⟩)(hf:a.eval f=.func (.func g) first captured)(hr:(first++args.map a.eval++captured).toList.length=xs.length/\∀(i:Nat)(c:Value)(x:FV),(first++args.map a.eval++captured).toList[i]?=some c->xs[i]?=some x->aU G w c x)(h:Px E.C call Y S o.dst g xs K){next:Act->World->Prop}{Q:Exit->Act->World->Prop}(hn:∀S' a' w',K S'->nT E S' a' w'->next a' w'):BP E o a w next Q:=by
 unfold Px at h;split at h;rename_i ob bs rest hb;unfold Zk at hb;split at hb;split at hb;rename_i vQ;have hb:=aq hb;injection hb with e1 e2;injection e2 with e2 e3;subst e1;subst e2;subst e3;exact wp_bld hs ho hf hr vQ h hn;cases hb;cases hb;rename_i hnb;rcases h with h|((⟨hx,h⟩|h)|h)|h;obtain⟨⟨fn,h1,h2,h3⟩,hc⟩:=dO E rfl Y g xs _ G S a w _ hs (hY.push a) h hr.1 hr.2;refine⟨λf _=>Env.gD f,?_⟩;rw[Oper.semAt_eq _ _ _ (λc=>by rw[ho];simp),uu ho hf h1 h2 h3,Oper.uponIn_enter];refine⟨λh=>(by rw[Env.kU]at h;cases h),Qt (CallsIn.mono hc ?_)⟩;rintro e w' ⟨v,x,G',S',rfl,hK,hs',hv⟩;unfold aib at hK;split at hK;obtain⟨T,hT,hK⟩:=hK;exact hn _ _ _ hK (nT.weaken ⟨G',hs'.put o.dst hv⟩ hT);exact hn _ _ _ hK ⟨G',hs'.put o.dst hv⟩;clear hnb;split at h;rename_i x;generalize hargs:(first++args.map a.eval++captured)=vs at hr;obtain⟨vs⟩:=vs;match vs,hr with
  |[v],hr=>have hv:=hr.2 0 v x rfl rfl;refine wp_value (v:=v) (w':=w) ?_ (hn _ _ _ h ⟨G,hs.put o.dst hv⟩);have :=hx v w;simp[execOp,ho,resolve,hf,Deferred.ofValue,invoke,hargs,this]
  |[],hr=>simp at hr
  |_::_::_,hr=>simp at hr
 exact h.elim;exact wp_lentC hs ho hf hr h hn;exact wp_lend hs ho hf hr h hn;exact wp_obj hs ho hf hr h hn
theorem wp_yield (hs:bA E G S a w){Y:pn}(hY:fh E Y){f:Operand}{args:Array Operand}{types:Array TypeId}{l:Nat}{K:an->Prop}(ho:o.op=.call ⟨.value f,args,types⟩)(hf:S.val f=.mh l)(h:Y l (args.toList.map S.val) (λv S'=>K (S'.put o.dst v)) S){next:Act->World->Prop}{Q:Exit->Act->World->Prop}(hn:∀S' a' w',K S'->nT E S' a' w'->next a' w'):BP E o a w next Q:=by
 have hfv:=aU.val hs f;rw[hf]at hfv;generalize LD:a.eval f=v at hfv;cases hfv with
 |mh _ k hk=>
  have hv:=ur hs args.toList;have hY':=hY E.mD [] [] E.fixed G S a w l k;simp only[dM,bh]at hY';have :=hY' _ _ _ hs hk h hv.1 hv.2;obtain⟨fn,tmps,assign,body,h1,h2⟩:=this;refine⟨λf _=>Env.gD f,?_⟩;have hrun:(execOp a.eval o).run E.C.P w=.ok (.round k fn tmps assign body) w:=by
   have he:(args.toList.map a.eval).toArray=args.map a.eval:=by apply iW.1;rw[nW]
   rw[he]at h1;simp[execOp,ho,resolve,LD,Deferred.ofValue,invoke,h1]
  rw[Oper.semAt_eq _ _ _ (λc=>by rw[ho];simp),hrun,Oper.uponIn_round];refine⟨λh=>(by rw[Env.kU]at h;cases h),zm (RoundIn.mono h2 ?_)⟩;rintro e w' ⟨v,x,G',S',rfl,hK,hs',hv⟩;exact hn _ _ _ hK ⟨G',hs'.put o.dst hv⟩
theorem wp_buildSlice (hs:bA E G S a w){t e:TypeId}{len:Nat}{parts:Array (Nat×Operand)}{d0:Nat}{K:an->Prop}{sa sb:Nat}{sz:List Value}(ho:o.op=.buildSlice t len parts)(WQ:o.dst=some d0)(ht:bV E.C.jE t=some ⟨sa,sb,.slice e,sz⟩)(h:mC E.C S t len parts.toList λv=>match v with
 |.full xs=>match bV E.C.jE e with|none=>False|some j=>wU S d0 λnm=>K ((S.kill nm).put (some d0) (.gd nm e j.size xs))
 |_=>False){next:Act->World->Prop}{Q:Exit->Act->World->Prop}(hn:∀S' a' w',K S'->nT E S' a' w'->next a' w'):BP E o a w next Q:=by obtain⟨xs,us,e',j,⟨_,_,_,ht'⟩,hj,hK,hrun,hlen,hr⟩:=yy hs ho h;rw[ht]at ht';have :=aq ht';injection this with _ _ q _;injection q with q;subst q;simp only[hj,lU]at hK;generalize hd:S.off+d0=d at hK;have GR:Below w.heap.size w (w.alloc (.cells us e)):=(Below.refl _ _).alloc (aB _) _;have hsz:(w.alloc (.cells us e)).heap.size=w.heap.size+1:=World.size_alloc w _;have hg:=((hs.PK GR λb o=>o<xs.length*j.size).kill d).AH (t:=d) (B:=w.heap.size) (s:=xs.length*j.size) (e:=xs.length*j.size) (T:=e) (vZ _ d) (by rw[hsz];omega) hs.kept.size ⟨_,_,World.alloc_heap_new w _,trivial⟩ (λo h=>by simp only[bl.free]at h;split at h;cases h;have :=(hs.gW o _ h).1;omega) (λt' r h=>by simp only[bl.free]at h;split at h;cases h;have :=(hs.gv t' _ r.1 r.2.1 r.2.2 h).1;omega) (λo h=>by simp only[bl.free]at h;split at h;cases h;have :=(hs.jr.row o _ h).2.1;omega) (λi hi hi'=>oO);refine wp_value hrun ?_;rw[WQ];exact hn _ _ _ hK ⟨_,hg.put (some d0) (x:=.gd d e j.size xs) (.gd d e j.size xs (some ⟨w.heap.size,0,none⟩) xs.length hr (.inr ⟨w.heap.size,0,rfl,hlen,by simp⟩))⟩
theorem wp_bytes (hs:bA E G S a w){src dst:TypeId}{x:Operand}{d0:Nat}{K:an->Prop}{s:List UInt8}(ho:o.op=.convert src dst x)(WQ:o.dst=some d0)(hx:S.val x=.p (.str s))(h:EK E.C S src dst d0 s K){next:Act->World->Prop}{Q:Exit->Act->World->Prop}(hn:∀S' a' w',K S'->nT E S' a' w'->next a' w'):BP E o a w next Q:=by
 unfold EK at h;split at h
 ·rename_i e _ h1 h2;split at h
  ·rename_i by0 z0 he;rw[lU]at h;have Hr:=aU.val hs x;rw[hx]at Hr;have ex:=Hr.kq;have hu1:=(E.C.ok h1).str;have hu2:=(E.C.ok h2).slice;have hu3:=(E.C.ok he).int;have hrun:(execOp a.eval o).run E.C.P w=.ok (.value (.slice (some ⟨w.heap.size,0,none⟩) (⟨s.toArray⟩:ByteArray).size (grownCap w (⟨s.toArray⟩:ByteArray).size 0 e))) (Lib.bytesWorld w e ⟨s.toArray⟩):=by simp[execOp,ho,ex,Lib.run_convert_string_bytes w src dst e ⟨s.toArray⟩ hu1 hu2 hu3]
   have hsz:(⟨s.toArray⟩:ByteArray).size=s.length:=by simp[ByteArray.size]
   rw[hsz]at hrun;have hcap:=grownCap_ge w s.length 0 e;generalize hc:grownCap w s.length 0 e=c at hrun hcap;have hb:Below w.heap.size w (Lib.bytesWorld w e ⟨s.toArray⟩):=⟨rfl,rfl,rfl,by rw[Lib.bytesWorld_size];omega,λk hk=>Lib.bytesWorld_at_old w e _ k hk⟩;have hcs:(Lib.bytesCells w e ⟨s.toArray⟩).size=c:=by simp[Lib.bytesCells,hc,hsz];omega
   have hnew:=Lib.bytesWorld_at_new w e ⟨s.toArray⟩;have hsize:=Lib.bytesWorld_size w e ⟨s.toArray⟩;have oD:dH (λb' o=>G.br b' o\/(w.heap.size<=b'/\¬(b'=w.heap.size/\0+(s.map λb=>[AV.int .u8 (b.toNat:Int)]).length*1<=o/\o<0+c*1))) (Lib.bytesWorld w e ⟨s.toArray⟩) (.slice (some ⟨w.heap.size,0,none⟩) (s.map λb=>[AV.int .u8 (b.toNat:Int)]).length c) (.sl (s.map λb=>[AV.int .u8 (b.toNat:Int)])):=by
    refine .sl w.heap.size 0 c 1 _ (λi j=>.int .u8 ((s.getD i 0).toNat:Int)) (λi ys hi=>?_) (λi ys j y hi hj=>?_) (λi ys j y hi hj=>?_) (λi ys j y hi hj=>?_) (λi ys j y hi hj=>?_) (by simpa using hcap);rw[aM]at hi;obtain⟨b,-,rfl⟩:=tB.1 hi;rfl;all_goals
     rw[aM]at hi;obtain⟨b,hb,rfl⟩:=tB.1 hi;have hlt:=(aI.1 hb).1;obtain rfl:j=0:=by
      cases j with
      |zero=>rfl
      |succ j=>simp at hj
     simp at hj;subst hj
    rfl;have :=Lib.bytesWorld_cell w e ⟨s.toArray⟩ i (by rw[hsz];exact hlt);simpa using this;refine .inr ⟨aB _,?_⟩;simp;omega;simp[List.getD,hb];exact .int _ _
   obtain⟨G',hg⟩:=uc hs (dst:=o.dst) (r:=.fresh e 1 (s.map λb=>[AV.int .u8 (b.toNat:Int)])) (v:=.slice (some ⟨w.heap.size,0,none⟩) (s.map λb=>[AV.int .u8 (b.toNat:Int)]).length c) hb ⟨some ⟨w.heap.size,0,none⟩,c,rfl,.inr ⟨w.heap.size,0,_,_,rfl,aB _,by rw[hsize];omega,λys hy=>by obtain⟨b,-,rfl⟩:=aJ.1 hy;rfl,hnew,λi hi hi'=>by
    refine⟨?_,?_⟩;have hlt:i<(Lib.bytesCells w e ⟨s.toArray⟩).size:=by rw[hcs];omega
    exact⟨_,by simp[World.cell?,hnew,hlt];rfl⟩;have hlt:i<(Lib.bytesCells w e ⟨s.toArray⟩).size:=by rw[hcs];omega
    simp[World.frozen?,hnew];omega,oD⟩⟩;refine wp_value (by rw[hrun,show s.length=(s.map λb=>[AV.int .u8 (b.toNat:Int)]).length from(aj _).symm]) (hn _ _ _ ?_ ⟨G',hg⟩);rw[WQ];exact h
  exact h.elim
 exact h.elim
theorem Qu (hs:bA E G S a w){t:TypeId}{x h m:Operand}{K:FV->Prop}(ho:o.op=.slice t x none (some h) (some m))(hk:SS E.C t (S.val x) (S.val h) (S.val m) K):Yields E G a w o K:=by have hx:=aU.val hs x;have hh:=aU.val hs h;have hm:=aU.val hs m;generalize S.val x=vx at hk hx;generalize S.val h=vh at hk hh;generalize S.val m=vm at hk hm;unfold SS at hk;split at hk;rename_i e _ ht;split at hk;exact hk.elim;rename_i j hj;split at hk;rename_i xs kh a0 km b0 hxs;obtain⟨rfl,rfl,hk⟩:=hk;obtain⟨ad,c,hv,-,-⟩:=(hx.elems hxs).lG;have e1:=hh.gh;have e2:=hm.gh;have hok:=E.C.ok ht;have KD:=hok.slice;have hjs:=(E.C.ok hj).sizeOf w;refine Yields.same (v:=.slice ad 0 0) ?_ hk (.full [] ad (.Vg _ _));simp[execOp,ho,hv,e1,e2,Instr.slice,Instr.sliceAt,run_underlying KD,Instr.sliceBounds,Instr.sliceBound,asIntOf,hjs];exact hk.elim;exact hk.elim
theorem wp_evAppN (hs:bA E G S a w){d:Nat}{K:an->Prop}{x y:Operand}{t u:TypeId}(ho:o.op=.call ⟨.builtin .append,#[x,y],#[t,u]⟩)(hd:o.dst=some d)(hx0:S.val x=.full [])(h:Nv E.C t u d S (S.val y) K){next:Act->World->Prop}{Q:Exit->Act->World->Prop}(hn:∀S' a' w',K S'->nT E S' a' w'->next a' w'):BP E o a w next Q:=by
 have Hr:=aU.val hs x;have hy:=aU.val hs y;rw[hx0]at Hr;generalize S.val y=vy at h hy;unfold Nv at h;split at h;rename_i e _ ui ht hui;have KD:=(E.C.ok ht).slice;obtain⟨dd,ZN,hsh⟩:=(E.C.ok hui).zh;split at h;exact h.elim;rename_i zw;have hdk:∀k,dd≠.int k:=λk e=>by rw[<-hsh,e]at zw;simp[shapeOf,Shape.FM]at zw
 split at h;exact h.elim;rename_i j hj;have hok:=E.C.ok hj;split at h;rename_i ys hys hb0 hp0;have hb0:=bH hb0;have p4:0<j.size:=xx (bH hp0);obtain⟨hne,zv,hbd,h⟩:=h;rw[jX]at h;obtain⟨hdn,zs,rfl,hK⟩:=h;have hm0:0<ys.length:=qh.2 hne;obtain⟨news,n1,n2,n3⟩:=hy.items (P:=E.C.P) (e:=j.size) hys zv;generalize Qk:a.eval y=vy at hy n2 n3;generalize NM:a.eval x=vv at Hr;cases Hr with
 |full _ ad hr0=>
  have nl:news.length=ys.length*j.size:=n1.len;have Vx:(aH ys.flatten).length=ys.length*j.size:=by rw[jf];exact ic zv
  have nr:∀(i:Nat)(z:FV),(aH ys.flatten)[i]?=some z->∃u,news[i]?=some u/\aU G w u z:=λi z hz=>by
   rw[we]at hz;have hi:i<ys.length*j.size:=by
    rw[<-ic zv];cases hq:ys.flatten[i]?with
    |none=>rw[hq]at hz;cases hz
    |some q=>exact(aI.1 hq).1
   have hq:i/j.size<ys.length:=Dq (by rw[xu];exact hi);have hr:i%j.size<(ys[i/j.size]).length:=by rw[zv _ (aQ hq)];exact oc _ p4
   have hii:i/j.size*j.size+i%j.size=i:=Nat.div_add_mod' i j.size;have h1:=ay hq;have h2:=ay hr;have h3:=nG zv h1 h2;rw[hii]at h3;rw[h3]at hz;obtain rfl:=aq hz;obtain⟨u,e1,e2,-⟩:=n1.at_ _ _ _ _ h1 h2;rw[hii]at e1;exact⟨u,e1,.p _ _ e2⟩
  have of':∀w',(∀b o,w'.cell? ⟨b,o,none⟩=w.cell? ⟨b,o,none⟩)->(Builtin.firstCells j.size 0 (.slice ad 0 0)).run E.C.P w'=.ok ([]:List Value).toArray w':=λw' _=>by cases ad<;>simp[Builtin.firstCells,loadCells,loadCellsFrom]
  obtain⟨rest,z,hz,qX,hrun⟩:=iZ (P:=E.C.P) (w:=w) (ty:=o.type) (base:=ad) (n:=0) (c:=0) (news:=news) (olds:=[]) KD ZN hdk hok n2 n3 of' oO (by rw[dF];exact hbd) hb0;have hcap:0+ys.length<=grownCap w (0+ys.length) 0 e:=grownCap_ge w _ _ _;generalize hcg:grownCap w (0+ys.length) 0 e=cap at*;have hrl:rest.size=(cap-(0+ys.length))*j.size:=by rw[qX,size_zeroCells,hz]
  have mF:(news++rest.toList).length=cap*j.size:=by simp only[aA,nl,jH,hrl,<-bK];rw[show ys.length+(cap-(0+ys.length))=cap from oO]
  generalize hnm:S.off+d=nm at hK hdn;obtain⟨G',g1,g2,g3⟩:=AI hs.drew nm hdn (zs:=aH ys.flatten) (cells:=news++rest.toList) (s:=ys.length*j.size) (cap:=cap*j.size) (e:=e) Vx mF (λi z hz=>by have hk:∀{v:Value}{z:FV},aU G w v z->aU G {w with drawn:=w.drawn+1} v z:=λh=>h.keep (λ_ _ h=>h) (λ_ _ _ _ h=>h) (λ_ _ _ _ h=>h) (λ_ _ h=>h) (λ_ _ h=>h);obtain⟨u,h2,h3⟩:=nr i z hz;have YT:=(aI.1 h2).1;exact⟨u,by rw[cF YT];exact h2,hk h3⟩);rw[js]at g1;have hW:w.drew.alloc (.cells (([]:List Value).toArray++news.toArray++rest) e)=({w with drawn:=w.drawn+1}:World).alloc (.cells (news++rest.toList).toArray e):=by
   have :([]:List Value).toArray++news.toArray++rest=(news++rest.toList).toArray:=by apply iW.1;simp
   rw[this];rfl
  rw[hW]at hrun;refine wp_value (v:=.slice (some ⟨w.heap.size,0,none⟩) (0+ys.length) cap) (w':=({w with drawn:=w.drawn+1}:World).alloc (.cells (news++rest.toList).toArray e)) ?_ (hn _ _ _ hK ⟨G',?_⟩);simp[execOp,ho,resolve,invoke,builtin,NM,Qk]at hrun⊢;rw[hrun];rfl;rw[hd];exact g1.put (some d) (v:=.slice (some ⟨w.heap.size,0,none⟩) (0+ys.length) cap) (x:=.gH nm e j.size) (.gH nm e j.size (0+ys.length) cap w.heap.size g2 (by rw[dF];exact g3) hcap p4)
 exact h.elim;exact h.elim
theorem uw {call:iR}{Y:pn}(dO:ni E.C call)(hY:fh E Y)(hs:bA E G S a w){K:an->Prop}(h:GN E.C call Y o K S){next:Act->World->Prop}{Q:Exit->Act->World->Prop}(hn:∀S' a' w',K S'->nT E S' a' w'->next a' w'):BP E o a w next Q:=by
 have Tl:eV E.C S o.op (λv=>K (S.put o.dst v))->BP E o a w next Q:=λh=>FT hs h λx v G' w' hk hs' hv=>hn _ _ _ hk ⟨G',hs'.put o.dst hv⟩;unfold GN at h;split at h;rename_i fn first captured hop;obtain⟨fr,h⟩:=h;obtain⟨S',h,G',hs'⟩:=zA fr h ⟨G,hs⟩;simp only[kH]at h;exact wp_of_yields hs' (yx (K:=λx=>K (S'.put o.dst x)) hs' hop h) λx v G' w' hk hs' hv=>hn _ _ _ hk ⟨G',hs'.put o.dst hv⟩;rename_i t len parts hop;split at h;rename_i d _ _ e _ hd ht;split at h;exact wp_openSlice hs hop hd ht h hn;exact wp_buildSlice hs hop hd ht h hn;exact h.elim;rename_i t hop;split at h;rename_i d i hd hi;obtain⟨z,hz,GQ⟩:=(E.C.ok hi).zeroV w;have hns:=λhdn=>Dp hs d hdn i.zero (i.zero.map FV.iC) t (rB _);have hrun:(execOp a.eval o).run E.C.P w=.ok (.value (.pointer (some ⟨w.heap.size,0,none⟩))) (w.alloc (.cells i.zero.toArray t)):=by
  have :z.cells=i.zero.toArray:=by rw[<-GQ]
  simp[execOp,hop,Instr.alloc,hz,newVar,newRow,this]
 split at h;rename_i hbt hz0;obtain rfl:=aN hbt;rw[HQ]at h;obtain⟨hdn,h⟩:=h;obtain⟨G',hg,hgl,hgr⟩:=hns hdn;refine wp_value hrun (hn _ _ _ h ⟨G',?_⟩);rw[hd];have hw:(w.alloc (.cells i.zero.toArray E.C.bT)).heap[w.heap.size]?=some (.cells #[.pointer none,.slice none 0 0] E.C.bT (0,0)):=by rw[World.alloc_heap_new,hz0]
 exact hg.aio (rest:=S.aK) rfl hgl hgr.1 hgr.2 hw;rw[kH,wV]at h;obtain⟨hdn,h⟩:=h;obtain⟨G',hg,hgl,hgr⟩:=hns hdn;refine wp_value hrun (hn _ _ _ h ⟨G',hd▸hg⟩);exact h.elim;rename_i t x hop;split at h;rename_i d i hd hi;split at h;rename_i hl;split at h;rename_i h1;rw[kH,wV]at h;obtain⟨hdn,h⟩:=h;have hx:=aU.val hs x;obtain⟨Qc,-⟩:=rA hx h1;obtain⟨G',hg,-,-⟩:=Dp hs d hdn (a.eval x).cells.toList (S.val x).cells t Qc;refine wp_value (v:=.pointer (some ⟨w.heap.size,0,none⟩)) (w':=w.alloc (.cells (a.eval x).cells.toList.toArray t)) ?_ (hn _ _ _ h ⟨G',hd▸hg⟩);simp[execOp,hop,Instr.box,newVar,newRow];exact h.elim;exact h.elim;exact h.elim;rename_i t ad x hop;split at h;rename_i i ob off hi vQ;split at h;exact h.elim;rename_i cells hcells;split at h;rename_i hl;split at h;rename_i h1;split at h;rename_i cs hcs;rw[kH]at h;have hx:=aU.val hs x;have had:=aU.val hs ad;rw[vQ]at had;obtain⟨b,hv,fZ⟩:=had.oT;obtain⟨hg,hrun⟩:=zo hs hcells fZ hx h1 hcs;obtain⟨Qc,-⟩:=rA hx h1;have hsz:(a.eval x).cells.size=i.size:=by rw[<-aN hl,<-Qc.1];simp
 have hr:(execOp a.eval o).run E.C.P w=.ok .skip (w.setCells b off (a.eval x).cells.toList):=by simp[execOp,hop,hv,Instr.storeAt,Instr.sureAddr,storeVar,(E.C.ok hi).sizeOf,hsz,hrun]
 refine⟨λf _=>Env.gD f,?_⟩;rw[Oper.semAt_eq _ _ _ (λc=>by rw[hop];simp),hr];exact hn _ _ _ h ⟨G,hg.put o.dst (v:=undef) (jU _ _)⟩;exact h.elim;exact h.elim;exact h.elim;rename_i i ob base off hi vQ;split at h;exact h.elim;rename_i cells hcells;split at h;rename_i hl;split at h;rename_i h1;obtain⟨A,ys,B,hmid,hA,h⟩:=h;split at h;rename_i zs hzs;rw[kH]at h;obtain⟨cs,rfl,h⟩:=h;have hx:=aU.val hs x;have had:=aU.val hs ad;rw[vQ]at had;obtain⟨b,hv,fZ⟩:=had.zi.oT;have hcs:gY cells (base+off) (S.val x).cells=some (A++(zs++B)):=by rw[hmid];exact Dr hA hzs
 obtain⟨hg,hrun⟩:=zo hs hcells fZ hx h1 hcs;obtain⟨Qc,-⟩:=rA hx h1;have hsz:(a.eval x).cells.size=i.size:=by rw[<-aN hl,<-Qc.1];simp
 have hr:(execOp a.eval o).run E.C.P w=.ok .skip (w.setCells b (base+off) (a.eval x).cells.toList):=by simp[execOp,hop,hv,Instr.storeAt,Instr.sureAddr,storeVar,(E.C.ok hi).sizeOf,hsz,hrun]
 refine⟨λf _=>Env.gD f,?_⟩;rw[Oper.semAt_eq _ _ _ (λc=>by rw[hop];simp),hr];exact hn _ _ _ h ⟨G,hg.put o.dst (v:=undef) (jU _ _)⟩;exact h.elim;exact h.elim;exact h.elim;exact h.elim;rename_i t hop;split at h;rename_i d hd;exact wp_makeMap hs hop hd h hn;exact h.elim;rename_i t len cap hop;split at h;rename_i d hd;exact wp_make hs hop hd h hn;exact h.elim;rename_i t m k x hop;exact wp_upd hs (.inl hop) h hn;rename_i t m k x hop;exact wp_upd hs (.inr hop) h hn;rename_i t x lo hi mx hop;unfold Py at h;split at h;rename_i k T bP hx;split at h;exact wp_evCutO hs hop hx h hn;exact wp_evTailO hs hop hx h hn;exact h.elim;split at h;exact wp_of_yields hs (Qu (K:=λv=>K (S.put o.dst v)) hs hop h) λx v G' w' hk hs' hv=>hn _ _ _ hk ⟨G',hs'.put o.dst hv⟩;exact Tl (by rw[hop];exact h);rename_i src ty x hop;unfold Vl at h;split at h;rename_i d _ hd;split at h;rename_i hx;exact wp_bytes hs hop hd hx h hn;exact h.elim;exact Tl (by rw[hop];exact h)
 ·rename_i c hop;obtain⟨callee,args,types⟩:=c;simp only at h;split at h;split at h;rename_i vx vy t u d hargs Is hd;obtain⟨args⟩:=args;obtain⟨types⟩:=types;simp only at hargs Is;subst Is;cases args with
  |nil=>simp at hargs
  |cons x args=>
   cases args with
   |nil=>simp at hargs
   |cons y args=>
    cases args with
    |cons z args=>simp at hargs
    |nil=>simp only[bB,fM,kS,and_true]at hargs;obtain⟨rfl,rfl⟩:=hargs;split at h;rename_i o2 T2 e2 hy2;exact wp_evAppO hs hop hd hy2 h hn;unfold SR at h;split at h;split at h;rename_i hx0;exact wp_evAppN hs hop hd hx0 h hn;exact wp_evAppend hs hop hd h hn;exact wp_evAppend hs hop hd h hn
  exact h.elim;split at h;rename_i vx t hargs Is;obtain⟨args⟩:=args;obtain⟨types⟩:=types;simp only at hargs Is;subst Is;match args,hargs with|[x],hargs=>simp only[bB,fM,kS,and_true]at hargs;rw[<-hargs]at h;exact wp_evClear hs hop h hn
  exact h.elim;exact wp_of_yields hs (zk hs hop h) λx v G' w' hk hs' hv=>hn _ _ _ hk ⟨G',hs'.put o.dst hv⟩
  ·rename_i f;have hfv:=aU.val hs f;unfold SM at h;have byC:∀{g:FuncId}{first captured:Array Value}{xs:List AV},a.eval f=.func (.func g) first captured->((first++args.map a.eval++captured).toList.length=xs.length/\∀(i:Nat)(c:Value)(x:AV),(first++args.map a.eval++captured).toList[i]?=some c->xs[i]?=some x->dH G.br w c x)->(∃R,av E.C g xs R/\∀r,R r->Ku S o.dst r K)->BP E o a w next Q:=λhv hr ⟨R,hc,hk⟩=>wp_call hs hop hv hr hc λr v w' hR hb hok=>by obtain⟨YV,hk'⟩:=Hi (hk r hR);obtain⟨G',hg⟩:=uc hs (dst:=o.dst) hb hok YV;exact hn _ _ _ hk' ⟨G',hg⟩
   split at h;rename_i g first captured hf;rw[hf]at hfv;obtain⟨fs,cs,hv,h1,h2⟩:=Td hfv;split at h;have h3:=mq (mq (zB (G:=G) h1 rfl) (ur hs args.toList)) (zB (G:=G) h2 rfl);exact wp_inl hs dO hY (first:=fs.toArray) (captured:=cs.toArray) hop hv (by simpa using h3) h hn;split at h;rename_i xs hxs;have h3:=xm (xm h1 (oa (ur hs args.toList) hxs)) h2;exact byC (first:=fs.toArray) (captured:=cs.toArray) hv (by simpa using h3) h;have h3:=mq (mq (zB (G:=G) h1 rfl) (ur hs args.toList)) (zB (G:=G) h2 rfl);exact wp_inl hs dO hY (first:=fs.toArray) (captured:=cs.toArray) hop hv (by simpa using h3) h hn;rename_i g first captured hf;rw[hf]at hfv;obtain⟨fs,cs,hv,h1,h2⟩:=NI hfv;have h3:=mq (mq h1 (ur hs args.toList)) h2;split at h;rename_i xs hxs;exact byC (first:=fs.toArray) (captured:=cs.toArray) hv (by simpa using oa h3 hxs) h;exact wp_inl hs dO hY (first:=fs.toArray) (captured:=cs.toArray) hop hv (by simpa using h3) h hn;rename_i l hf;exact wp_yield hs hY hop hf h hn;exact h.elim
  exact h.elim
 exact Tl h
theorem tC (hs:bA E G S a w){ops:Array Oper}{j d:Nat}{b:Bool}(hd:(ops[j]?).bind (·.dst)=some d)(hg:S.get d=.p (.bool b)):yielded ops a.tmps j=some b:=by
 have h:=aU.get hs d;rw[hg]at h;have h:=h.nF;unfold yielded;rw[hd];have hlt:d<a.tmps.size:=by rw[hs.size];unfold an.get at hg;split at hg;rename_i hb;simpa using hb;cases hg
 simp only[nZ];rw[tA hlt];simp only[Array.getD,hlt,dite_true]at h;change a.tmps[d]=_ at h;rw[h]
theorem rR (hs:bA E G S a w){ops:Array Oper}{j d:Nat}(hd:(ops[j]?).bind (·.dst)=some d)(hg:S.get d=.p (.eN [])):yielded ops a.tmps j=none:=by have h:=aU.get hs d;rw[hg]at h;have h:=h.WH;unfold yielded;rw[hd];simp only[nZ];by_cases hlt:d<a.tmps.size;rw[tA hlt];simp only[Array.getD,hlt,dite_true]at h;change a.tmps[d]=_ at h;rw[h];rfl;rw[Dw oO]
theorem FY {call:iR}{Y:pn}(dO:ni E.C call)(hY:fh E Y){ops:Array Oper}{K:an->Prop}{Q:Exit->Act->World->Prop}(hQ:∀S' a' w',K S'->nT E S' a' w'->Q .normal a' w'):∀(l:List Oper)(S:an)(a:Act)(w:World),pK E.C call Y ops l K S->nT E S a w->wpListIn E.jv 0 E.C.P ops Q l a w:=by
 intro l;induction l with
 |nil=>intro S a w h hs;exact wpListIn_nil (hQ _ _ _ h hs)
 |cons o l ih=>intro S a w h hs;obtain⟨G,hs⟩:=hs;simp only[pK]at h;refine wpListIn_step λK' BT=>?_;split at h;rename_i hg;rw[ag (by simp[Region.wanted,hg])];exact uw dO hY hs h λS' a' w' hk hs'=>BT _ _ (ih _ _ _ hk hs');rename_i j want hg;split at h;exact h.elim;rename_i d hd;split at h;rename_i b hb;have hy:=tC hs hd hb;split at h;rename_i ED;rw[oI]at ED;rw[ag (by simp[Region.wanted,hg,hy,beq_iff_eq.1 ED])];exact uw dO hY hs h λS' a' w' hk hs'=>BT _ _ (ih _ _ _ hk hs');rename_i ED;rw[oI]at ED;rw[af (by simp[Region.wanted,hg,hy];exact xA.1 ED)];exact⟨λf _=>Env.gD f,BT _ _ (ih _ _ _ h ⟨G,hs.put o.dst (jU G w)⟩)⟩;rename_i hb;have hy:=rR hs hd hb;rw[af (by simp[Region.wanted,hg,hy])];exact⟨λf _=>Env.gD f,BT _ _ (ih _ _ _ h ⟨G,hs.put o.dst (jU G w)⟩)⟩;exact h.elim
structure Off (ds:List Nat)(S S':an):Prop where
 n:S'.n=S.n
 off:S'.off=S.off
 bM:S'.bM=S.bM
 cO:S'.cO=S.cO
 dh:S'.dh=S.dh
 aK:S'.aK=S.aK
 maps:S'.maps=S.maps
 jD:S'.jD=S.jD
 tmps:∀i,hU i ds=false->S'.tmps i=S.tmps i
theorem Off.put {ds:List Nat}{S S':an}(h:Off ds S S'){dst:Option Nat}(hd:∀d,dst=some d->d∈ds)(v:FV):Off ds S (S'.put dst v):=by
 cases dst with
 |none=>exact h
 |some d=>
  refine⟨h.n,h.off,h.bM,h.cO,h.dh,h.aK,h.maps,h.jD,λi hi=>?_⟩;simp only[an.put];have hne:i≠d:=λe=>by have :=oK.2 (hd d rfl);rw[<-e,hi]at this;cases this
  have :Nat.beq i d=false:=by cases hb:Nat.beq i d;rfl;exact absurd (aN hb) hne
  rw[this];exact h.tmps i hi
theorem Vy {C:Ctx}{ops:Array Oper}{ds:List Nat}{S0:an}:∀(l:List Oper)(K:an->Prop)(S:an),(∀o,o∈l->∀d,o.dst=some d->d∈ds)->Off ds S0 S->Ho C ops l K S->Ho C ops l (λS'=>K S'/\Off ds S0 S') S:=by
 intro l;induction l with
 |nil=>intro K S _ ho h;exact⟨h,ho⟩
 |cons o l ih=>
  intro K S hl ho h;have hd:=hl o kX;have hl':=λo' ho'=>hl o' (dG _ ho');simp only[Ho]at h⊢;split at h;rename_i hg;obtain⟨v,h1,h2⟩:=h;try simp only[hg]
  exact⟨v,h1,ih _ _ hl' (ho.put hd v) h2⟩;rename_i j want hg;try simp only[hg]
  split at h;exact h.elim;rename_i d hdj;try simp only[hdj]
  split at h;rename_i b hb;first|rw[hb]|skip
  cases hsb:HT b want with
  |true=>simp only[hsb]at h⊢;obtain⟨v,h1,h2⟩:=h;exact⟨v,h1,ih _ _ hl' (ho.put hd v) h2⟩
  |false=>simp only[hsb]at h⊢;exact ih _ _ hl' (ho.put hd _) h
  rename_i hb;first|rw[hb]|skip
  exact ih _ _ hl' (ho.put hd _) h;exact h.elim
theorem EY {K:FV->Prop}(hs:bA E G S a w){v:FV}(h:eV E.C S o.op λu=>u=v){next:Act->World->Prop}{Q:Exit->Act->World->Prop}(hn:∀a' w',nT E (S.put o.dst v) a' w'->next a' w'):BP E o a w next Q:=FT hs h λx u G' w' hk hs' hv=>hn _ _ ⟨G',by subst hk;exact hs'.put o.dst hv⟩
theorem WV {ops:Array Oper}{K:an->Prop}{Q:Exit->Act->World->Prop}(hQ:∀S' a' w',K S'->nT E S' a' w'->Q .normal a' w'):∀(l:List Oper)(S:an)(a:Act)(w:World),Ho E.C ops l K S->nT E S a w->wpListIn E.jv 0 E.C.P ops Q l a w:=by
 intro l;induction l with
 |nil=>intro S a w h hs;exact wpListIn_nil (hQ _ _ _ h hs)
 |cons o l ih=>intro S a w h hs;obtain⟨G,hs⟩:=hs;simp only[Ho]at h;refine wpListIn_step λK' BT=>?_;split at h;rename_i hg;rw[ag (by simp[Region.wanted,hg])];obtain⟨v,h1,h2⟩:=h;exact EY (K:=λ_=>True) hs h1 λa' w' hs'=>BT _ _ (ih _ _ _ h2 hs');rename_i j want hg;split at h;exact h.elim;rename_i d hd;split at h;rename_i b hb;have hy:=tC hs hd hb;split at h;rename_i ED;rw[oI]at ED;rw[ag (by simp[Region.wanted,hg,hy,beq_iff_eq.1 ED])];obtain⟨v,h1,h2⟩:=h;exact EY (K:=λ_=>True) hs h1 λa' w' hs'=>BT _ _ (ih _ _ _ h2 hs');rename_i ED;rw[oI]at ED;rw[af (by simp[Region.wanted,hg,hy];exact xA.1 ED)];exact⟨λf _=>Env.gD f,BT _ _ (ih _ _ _ h ⟨G,hs.put o.dst (jU G w)⟩)⟩;rename_i hb;have hy:=rR hs hd hb;rw[af (by simp[Region.wanted,hg,hy])];exact⟨λf _=>Env.gD f,BT _ _ (ih _ _ _ h ⟨G,hs.put o.dst (jU G w)⟩)⟩;exact h.elim
theorem bw.refl (x:FV):bw x x:=λ_ _ _ h=>h
theorem bw.dW (x:FV):bw x .dW:=λ_ _ _ _=>.dW _
theorem Qw {K:an->Prop}{S':an}:∀(rs:List Nat)(T:an)(φ:List FV->Prop),EL K T rs φ->φ (getAll S' rs)->cU S' T->∃T',K T'/\cU S' T':=by
 intro rs;induction rs with
 |nil=>intro T φ h hφ hw;exact⟨T,h.out hφ,hw⟩
 |cons r rs ih=>intro T φ h hφ hw;refine ih _ _ (h.out (S'.get r)) hφ ⟨hw.n,hw.off,hw.cO,hw.dh,hw.bM,λi=>?_,hw.aK,hw.maps,hw.jD⟩;simp only[an.put];split;rename_i hb;obtain rfl:=aN hb;unfold an.get;split;exact bw.refl _;exact bw.dW _;exact hw.tmps i
theorem Off.weaken {ds:List Nat}{S S':an}(h:Off ds S S'):cU S' (S.vH ds):=by
 refine⟨h.n.symm,h.off.symm,h.cO.symm,λo bs q=>⟨by rw[h.dh];exact q,λq2=>by show Qv.getObj S.aK o=none;rw[<-h.aK];exact q2⟩,⟨by show S.bM.length=_;rw[h.bM],λi f f' h1 h2=>by have h2':S.bM[i]?=some f':=h2;rw[h.bM,h2']at h1;obtain rfl:=aq h1;exact⟨rfl,rfl,λ_=>bw.refl _⟩⟩,λi=>?_,λo ys ho=>?_,λo l hl=>?_,λq x hx=>by rw[h.jD];exact hx⟩;simp only[an.vH];cases hm:hU i ds with
 |true=>exact bw.dW _
 |false=>simp only;rw[h.tmps i hm];exact bw.refl _
 rw[h.aK];exact⟨ys,ho,rfl,λi x y hx hy=>by rw[hx]at hy;obtain rfl:=aq hy;exact bw.refl _⟩;rw[h.maps];exact⟨l,hl,rfl,λi p p' h1 h2=>by rw[h1]at h2;obtain rfl:=aq h2;exact⟨rfl,bw.refl _⟩⟩
theorem Tm {l:List Oper}{o:Oper}(h:o∈l){d:Nat}(hd:o.dst=some d):d∈dstsOf l:=by
 induction l with
 |nil=>cases h
 |cons p l ih=>simp only[dstsOf];rcases aL.1 h with rfl|h;rw[hd];exact kX;split;exact dG _ (ih h);exact ih h
end
end Qv
