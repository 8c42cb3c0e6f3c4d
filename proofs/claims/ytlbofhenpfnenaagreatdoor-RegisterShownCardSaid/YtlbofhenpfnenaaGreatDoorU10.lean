/- Part 10 of the proof: its lemmas. No condition. -/
import Derived.Test.YtlbofhenpfnenaaGreatDoorU9
import Derived.Laws.AppendOwn
set_option maxRecDepth 10000
set_option maxHeartbeats 80000000
set_option linter.all false
namespace Qv
open Go Go.RowKit
section
variable {E:Env}{G:aV}{S:ai}{a:Act}{w:World}{o:Oper}
structure Flat (aZ:Nat->Nat->Prop)(w:World)(e:Nat)(ys:List (List AV))(news:List Value):Prop where
 len:news.length=ys.length*e
 one:∀u,u∈news->u.oneCell'=true
 at_:∀(i:Nat)(zs:List AV)(j:Nat)(z:AV),ys[i]?=some zs->zs[j]?=some z->∃u,news[i*e+j]?=some u/\dh aZ w u z/\z.one=true
theorem xu {P:Program}{aZ:Nat->Nat->Prop}{ys:List (List AV)}{v:Value}{e:Nat}(h:dh aZ w v (.sl ys))(he:∀zs,zs∈ys->zs.length=e):∃news,Flat aZ w e ys news/\(Builtin.lenOf v).run P w=.ok ys.length w/\∀w',(∀b o,w'.cell? ⟨b,o,none⟩=w.cell? ⟨b,o,none⟩)->(Builtin.firstCells e ys.length v).run P w'=.ok news.toArray w':=by
 obtain⟨ad,c,rfl,hc,hne⟩:=h.lD;by_cases h0:ys=[];subst h0;refine⟨[],⟨by simp,by simp,by simp⟩,by rfl,λw' _=>?_⟩;cases ad<;>simp[Builtin.firstCells,loadCells,loadCellsFrom];obtain⟨b,off,bP,cell,rfl,g1,g2⟩:=hne h0;have hpos:0<ys.length:=jr.2 h0;obtain rfl:bP=e:=(g1 0 _ (av hpos)).symm.trans (he _ (aK hpos));let f:Nat->Value:=λq=>(w.cell? ⟨b,off+q,none⟩).getD undef;have hq:∀q,q<ys.length*bP->∃zs z,ys[q/bP]?=some zs/\zs[q%bP]?=some z/\z.one=true/\w.cell? ⟨b,off+q,none⟩=some (f q)/\dh aZ w (f q) z:=λq hq=>by
  have hep:0<bP:=by rcases Nat.eq_zero_or_pos bP with h|h;simp_all;omega
  have hi:q/bP<ys.length:=Df (by grind);have hzs:=av hi;have hl:=g1 _ _ hzs;have hj:q%bP<(ys[q/bP]).length:=by rw[hl];exact kr _ hep
  obtain⟨k1,k2,k3,k4⟩:=g2 _ _ _ _ hzs (av hj);have hqe:off+q/bP*bP+q%bP=off+q:=by have :=Dh q bP;rw[sZ]at this;omega
  rw[hqe]at k2;have hf:f q=cell (q/bP) (q%bP):=by simp only[f,k2,xw]
  exact⟨_,_,hzs,av hj,k1,by simp_all,by simp_all⟩
 refine⟨(List.range (ys.length*bP)).map f,⟨by simp,λu hu=>?_,λi zs j z hi hj=>?_⟩,by rfl,λw' hw=>?_⟩;obtain⟨q,NC,rfl⟩:=aI.1 hu;obtain⟨zs,z,-,-,k1,-,k2⟩:=hq q (iR.1 NC);exact k2.ZW k1;have yW:=(aG.1 hi).1;have hjl:=(aG.1 hj).1;rw[g1 i zs hi]at hjl;have hlt:i*bP+j<ys.length*bP:=by have :(i+1)*bP<=ys.length*bP:=dO _ yW;rw[bC]at this;omega
 obtain⟨k1,k2,k3,k4⟩:=g2 _ _ _ _ hi hj;have hf:f (i*bP+j)=cell i j:=by simp only[f,<-gj,k2,xw]
 simp_all;have :=run_loadCells (P:=P) w' ⟨b,off,none⟩ (ys.length*bP) f (λq NC=>by rw[Addr.add_lit,hw];grind);simpa[Builtin.firstCells]using this
theorem Gc {P:Program}{aZ:Nat->Nat->Prop}{s:List UInt8}{e:Nat}(he:∀zs,zs∈(s.map λ(b:UInt8)=>[AV.int .u8 (b.toNat:Int)])->zs.length=e):∃news,Flat aZ w e (s.map λ(b:UInt8)=>[AV.int .u8 (b.toNat:Int)]) news/\(Builtin.lenOf (.string ⟨s.toArray⟩)).run P w=.ok (s.map λ(b:UInt8)=>[AV.int .u8 (b.toNat:Int)]).length w/\∀w',(Builtin.firstCells e (s.map λ(b:UInt8)=>[AV.int .u8 (b.toNat:Int)]).length (.string ⟨s.toArray⟩)).run P w'=.ok news.toArray w':=by
 have he1:s≠[]->e=1:=λh=>by
  cases s with
  |nil=>simp_all
  |cons b s=>simp_all
 have hsz:(⟨s.toArray⟩:ByteArray).size=s.length:=by simp[ByteArray.size]
 refine⟨s.map λb=>.int .u8 b.toNat,⟨?_,λu hu=>?_,λi zs j z hi hj=>?_⟩,by simp[Builtin.lenOf,hsz],λw'=>?_⟩;by_cases h0:s=[];grind;simp_all;obtain⟨b,-,rfl⟩:=aI.1 hu;rfl;rw[aR]at hi;cases hb:s[i]?with
 |none=>simp_all
 |some b=>
  simp[hb]at hi;subst hi;have hne:s≠[]:=λe=>by simp_all
  cases j with
  |succ j=>simp_all
  |zero=>simp at hj;subst hj;refine⟨.int .u8 b.toNat,?_,.int _ _,rfl⟩;simp_all
 have hx:(⟨s.toArray⟩:ByteArray).extract 0 s.length=⟨s.toArray⟩:=by rw[Bl s 0 s.length (ay _)];simp
 simp[Builtin.firstCells,hx]
section
variable {P:Program}
theorem mP {t u elem ty:TypeId}{d:TypeDesc}{n c:Nat}{base:Option Addr}{yv:Value}{i:jX}(ht:P.underlying t=some (.slice elem))(hu:P.underlying u=some d)(hd:∀k,d≠.int k)(hi:fJ P elem i)(hl:(Builtin.lenOf yv).run P w=.ok 0 w)(hf:(Builtin.firstCells i.size 0 yv).run P w=.ok #[] w)(hc:n<=c):(Builtin.append_ #[t,u] ty #[.slice base n c,yv]).run P w=.ok (.slice base n c) w:=by
 have hd':(match d with|.int _=>true|_=>false)=false:=by cases d<;>first|rfl|grind
 cases base<;>simp[Builtin.append_,run_underlying ht,run_underlying hu,hi.sizeOf,hd',hl,hf,hc,storeCells]
theorem nS {t u elem ty:TypeId}{d:TypeDesc}{n c m b off:Nat}{yv:Value}{i:jX}{news:List Value}(ht:P.underlying t=some (.slice elem))(hu:P.underlying u=some d)(hd:∀k,d≠.int k)(hi:fJ P elem i)(hl:(Builtin.lenOf yv).run P w=.ok m w)(hf:(Builtin.firstCells i.size m yv).run P w=.ok news.toArray w)(hc:n+m<=c)(hcell:∀j,j<news.length->(w.cell? ⟨b,off+n*i.size+j,none⟩).isSome=true)(hfz:∀j,j<news.length->w.frozen? ⟨b,off+n*i.size+j,none⟩=false)(h1:∀u,u∈news->u.oneCell'=true):(Builtin.append_ #[t,u] ty #[.slice (some ⟨b,off,none⟩) n c,yv]).run P w=.ok (.slice (some ⟨b,off,none⟩) (n+m) c) (w.setCells b (off+n*i.size) news):=by
 have hd':(match d with|.int _=>true|_=>false)=false:=by cases d<;>first|rfl|grind
 have hst:=run_storeCells_cells (P:=P) b (off+n*i.size) news 0 w oO oO h1;simp only[Nat.add_zero]at hst;simp[Builtin.append_,run_underlying ht,run_underlying hu,hi.sizeOf,hd',hl,hf,hc,Addr.add_lit,hst]
theorem iS {t u elem ty:TypeId}{d:TypeDesc}{n c m:Nat}{base:Option Addr}{yv:Value}{i:jX}{olds news:List Value}(ht:P.underlying t=some (.slice elem))(hu:P.underlying u=some d)(hd:∀k,d≠.int k)(hi:fJ P elem i)(hl:(Builtin.lenOf yv).run P w=.ok m w)(hf:∀w',(∀b o,w'.cell? ⟨b,o,none⟩=w.cell? ⟨b,o,none⟩)->(Builtin.firstCells i.size m yv).run P w'=.ok news.toArray w')(ho:∀w',(∀b o,w'.cell? ⟨b,o,none⟩=w.cell? ⟨b,o,none⟩)->(Builtin.firstCells i.size n (.slice base n c)).run P w'=.ok olds.toArray w')(hc:¬n+m<=c)(hb:(n+m)*i.bytes<=2^47)(hb0:i.bytes≠0):∃rest z,z.size=i.size/\rest=Builtin.zeroCells z (grownCap w (n+m) c elem-(n+m))/\(Builtin.append_ #[t,u] ty #[.slice base n c,yv]).run P w=.ok (.slice (some ⟨w.heap.size,0,none⟩) (n+m) (grownCap w (n+m) c elem)) (w.drew.alloc (.cells (olds.toArray++news.toArray++rest) elem)):=by
 have hd':(match d with|.int _=>true|_=>false)=false:=by cases d<;>first|rfl|grind
 obtain⟨inf,z,CZ,hsz,hby,hz,Hv⟩:=hi.info';refine⟨_,z.cells,by rw[<-js,Hv,hi.len],rfl,?_⟩;have hfit:=growslice_fits (need:=n+m) (old:=c) (bytes:=i.bytes) oO oO;have VM:n+m<=2^47:=bH (Nat.le_mul_of_pos_right _ (xx hb0)) hb;have anu:¬(((n+m:Nat):Int)>IntKind.i64.max):=by simp only[IntKind.max,IntKind.signed,IntKind.bits,if_true];omega
 have h48:¬Builtin.nextslicecap (n+m) c*i.bytes>2^48:=oO
 have hfw:=hf w.drew (λ_ _=>rfl);have how:=ho w.drew (λ_ _=>rfl);have VI:∀w',(typeInfo elem).run P w'=.ok inf w':=λw'=>run_typeInfo w' CZ;have hzv:∀w',(zeroValue elem).run P w'=.ok z w':=λw'=>by simp[zeroValue,VI w',hz]
 have hso:∀w',(Go.sizeOf elem).run P w'=.ok i.size w':=λw'=>hi.sizeOf w';have akH:¬(281474976710656<Builtin.nextslicecap (n+m) c*i.bytes):=oO
 simp[Builtin.append_,run_underlying ht,run_underlying hu,hso,hd',hl,hc,VI,hby,hb0,akH,Question.forced,how,hfw,hzv,newRow,grownCap];grind
end
theorem aT.items {y:FV}{v:Value}{ys:List (List AV)}{P:Program}{e:Nat}(hy:y.items=some ys)(h:aT G w v y)(he:∀zs,zs∈ys->zs.length=e):∃news,Flat G.aZ w e ys news/\(Builtin.lenOf v).run P w=.ok ys.length w/\∀w',(∀b o,w'.cell? ⟨b,o,none⟩=w.cell? ⟨b,o,none⟩)->(Builtin.firstCells e ys.length v).run P w'=.ok news.toArray w':=by
 cases y with
 |p x=>
  cases x with
  |str s=>
   have hys:(s.map λ(b:UInt8)=>[AV.int .u8 (b.toNat:Int)])=ys:=by simpa[FV.items]using hy
   subst hys;obtain rfl:=h.jR;obtain⟨news,h1,h2,h3⟩:=Gc (P:=P) (w:=w) (aZ:=G.aZ) he;grind
  |_=>exact xu (h.elems (by simpa[FV.items]using hy)) he
 |_=>exact xu (h.elems (by simpa[FV.items]using hy)) he
theorem bp.vT (hs:bp E G S a w){t:Nm}{B s e:Nat}{T:TypeId}(h0:G.tail t=none)(h1:B<w.heap.size)(h2:E.w0.heap.size<=B)(hty:∃cs fr,w.heap[B]?=some (.cells cs T fr)/\adT t fr)(h3:∀o,G.loc o=some B->lF S o t s)(h4:∀t' r,G.tail t'≠some (B,r))(h6:∀o,G.row o≠some B)(h5:∀i,s<=i->i<e->(∃c,w.cell? ⟨B,i,none⟩=some c)/\w.frozen? ⟨B,i,none⟩=false/\¬G.aZ B i):bp E {G with tail:=λt'=>if t'=t then some (B,s,e,T)else G.tail t'} S a w:=by
 have up:∀v x,aT G w v x->aT {G with tail:=λt'=>if t'=t then some (B,s,e,T)else G.tail t'} w v x:=λv x h=>h.keep (λ_ _ h=>h) (λ_ _ _ _ h=>h) (.refl _ _) (λ_ _ h=>h) (λt' r h=>by grind);have Kw:lP (λx=>x) G {G with tail:=λt'=>if t'=t then some (B,s,e,T)else G.tail t'} S S w:=lP.same rfl rfl rfl rfl rfl rfl λq r h=>by grind
 refine⟨hs.kept,hs.size,hs.ext'.keep rfl rfl rfl up (.refl _) (Kw:=Kw),hs.jl.keep rfl rfl (λo bs q=>⟨q,rfl,rfl⟩) (λ_ _ _ q=>q) (λ_ _ e=>e) (ay _) (λ_ _ _ _ _ _=>rfl) (λ_ _ _=>rfl) (λ_ _ _ _ e=>e) (λ_ _ _ _ e=>e) (λo r t' q e e'=>?_),hs.oy,hs.fo,λi hi=>up _ _ (hs.tmps i hi),λo cells ho=>?_,hs.iz,hs.fk,λo t' b r h h'=>?_,λt' b s' e' T' h=>?_,λt1 t2 b r1 r2 h h'=>?_⟩;grind;obtain⟨b,k1,k2⟩:=hs.aN o cells ho;grind;simp only at h';split at h';rename_i ht;have :=au h';injection this with q1 q2;subst q1;subst q2;subst ht;exact h3 o h;exact hs.cE o t' b r h h';simp only at h;split at h;simp_all;exact hs.fF t' b s' e' T' h;simp only at h h';split at h<;>split at h';simp_all;simp_all;simp_all;exact hs.ek t1 t2 b r1 r2 h h'
theorem bp.AA (hs:bp E G S a w){t:Nm}{B s e:Nat}{T:TypeId}(h0:G.tail t=none)(h1:B<w.heap.size)(h2:E.w0.heap.size<=B)(hty:∃cs fr,w.heap[B]?=some (.cells cs T fr)/\adT t fr)(h3:∀o,G.loc o≠some B)(h4:∀t' r,G.tail t'≠some (B,r))(h6:∀o,G.row o≠some B)(h5:∀i,s<=i->i<e->(∃c,w.cell? ⟨B,i,none⟩=some c)/\w.frozen? ⟨B,i,none⟩=false/\¬G.aZ B i):bp E {G with tail:=λt'=>if t'=t then some (B,s,e,T)else G.tail t'} S a w:=hs.vT h0 h1 h2 hty (λo h=>(h3 o h).elim) h4 h6 h5
theorem bp.aag (hs:bp E G S a w){k b s0 e0:Nat}{T:TypeId}{news:List Value}(ht:G.tail k=some (b,s0,e0,T))(hn:s0+news.length<=e0):bp E {(G.free k)with aZ:=λb' o=>G.aZ b' o\/(b'=b/\s0<=o/\o<s0+news.length)} (S.kill k) a (w.setCells b s0 news)/\(∀v x,aT G w v x->aT {(G.free k)with aZ:=λb' o=>G.aZ b' o\/(b'=b/\s0<=o/\o<s0+news.length)} (w.setCells b s0 news) v (x.kill k))/\(∀b' i c,G.aZ b' i->w.cell? ⟨b',i,none⟩=some c->(w.setCells b s0 news).cell? ⟨b',i,none⟩=some c):=by
 obtain⟨t1,t2,⟨tcs,tfr,tty,ttu⟩,t3⟩:=hs.fF k b s0 e0 T ht;have hcell:∀b' i c,G.aZ b' i->w.cell? ⟨b',i,none⟩=some c->(w.setCells b s0 news).cell? ⟨b',i,none⟩=some c:=λb' i c hi hc=>by rw[World.cell?_setCells_out b news s0 w ⟨b',i,none⟩ (λe _=>by grind)];omega
 have hout:∀b2 i,b2≠b->(w.setCells b s0 news).cell? ⟨b2,i,none⟩=w.cell? ⟨b2,i,none⟩:=λb2 i hne=>World.cell?_setCells_out b _ s0 w ⟨b2,i,none⟩ (λe=>absurd e hne);have hfz:∀x,(w.setCells b s0 news).frozen? x=w.frozen? x:=λx=>World.frozen?_setCells b _ s0 w x;have hsz:=jD b news s0 w;have up:∀v x,aT G w v x->aT {(G.free k)with aZ:=λb' o=>G.aZ b' o\/(b'=b/\s0<=o/\o<s0+news.length)} (w.setCells b s0 news) v (x.kill k):=λv x hv=>by refine aT.kill (G:={G with aZ:=λb' o=>G.aZ b' o\/(b'=b/\s0<=o/\o<s0+news.length)}) k ?_ rfl (λo b h h'=>by simp only[aV.free];simp_all) (λt r h h'=>by simp only[aV.free];simp_all) (hmp:=aV.pe.1) (hit:=aV.pe.2.2.1);exact hv.keep (λ_ _ h=>.inl h) hcell ((fZ.setCells b _ _ _).qO _) (λ_ _ h=>h) (λ_ _ h=>h)
 have vU:∀o b',(G.free k).loc o=some b'->o≠k/\G.loc o=some b':=λo b' h=>by simp only[aV.free]at h;simp_all
 have Qn:∀t r,(G.free k).tail t=some r->t≠k/\G.tail t=some r:=λt r h=>by simp only[aV.free]at h;simp_all
 have Kw:lP (FV.kill k) G {(G.free k)with aZ:=λb' o=>G.aZ b' o\/(b'=b/\s0<=o/\o<s0+news.length)} S (S.kill k) w:=.afZ k (λb' i es n hb _ h=>h.elim id λh=>by simp_all) (λ_ h=>.inl h) aV.pe.1 aV.pe.2.1 aV.pe.2.2.1 aV.pe.2.2.2 (λo b h=>(vU o b h).2);refine⟨⟨hs.kept.setCells (.inl t2) _ _,hs.size,hs.ext'.move (S':=S.kill k) (FV.kill k) rfl rfl rfl up (.setCells _ _ _ _) Kw,?_,?_,?_,λi hi=>up _ _ (hs.tmps i hi),λo cells ho=>?_,λo b' ho=>?_,λo o' b' h h'=>hs.fk o o' b' (vU _ _ h).2 (vU _ _ h').2,λo t b' r h h'=>lF.kill (hs.cE o t b' r (vU _ _ h).2 (Qn _ _ h').2) k,λt b' s e T' h=>?_,λt t' b' r r' h h'=>hs.ek t t' b' r r' (Qn _ _ h).2 (Qn _ _ h').2⟩,up,hcell⟩;refine hs.jl.keep rfl rfl (λo bs q=>?_) (λo _ _ q=>oZ q) (λo r e=>?_) oO (λo bs b2 q q2 e=>gO _ _ _ _ _ (λe2=>by have :=(hs.cE o k b _ (e2▸e) ht).2.1;simp_all)) (λo r e=>gO _ _ _ _ _ (λe2=>(hs.jl.row o r e).2.2.2.2.1 k _ (e2▸ht))) (λo r i e hi=>?_) (λ_ _ o' _ e=>(vU o' _ e).2) (λ_ _ t q _ e=>⟨t,q,(Qn t _ e).2⟩);obtain⟨q1,q2⟩:=kq q;refine⟨q2,?_,?_⟩;simp only[aV.free];simp_all;simp only[aV.free];simp_all;simp only[aV.free]at e;simp_all;rcases hi with hi|⟨rfl,-,-⟩;omega;exact absurd ht ((hs.jl.row o _ e).2.2.2.2.1 k _);rintro b' o (hi|⟨rfl,-,-⟩);exact hs.oy b' o hi;omega;rintro b' o (hi|⟨rfl,-,-⟩);rw[hsz];exact hs.fo b' o hi;omega;obtain⟨hne,cs,h2,rfl⟩:=kR ho;obtain⟨b',h3,h4⟩:=hs.aN o cs h2;refine⟨b',by simp only[aV.free];simp_all,λi x hx=>?_⟩;rw[FV.fq,aR]at hx;cases hc:cs[i]?with
 |none=>simp_all
 |some y=>simp[hc]at hx;subst hx;obtain⟨c,h5,h6⟩:=h4 i y hc;have hb:b'≠b:=λe=>hne (wP (hs.cE o k b _ (e▸h3) ht).1.symm);simp_all
 obtain⟨hne,ho⟩:=vU o b' ho;obtain⟨k1,k2,k3⟩:=hs.iz o b' ho;have hb:b'≠b:=λe=>hne (wP (hs.cE o k b _ (e▸ho) ht).1.symm);simp_all;obtain⟨hne,h⟩:=Qn t _ h;obtain⟨k1,k2,kt,k3⟩:=hs.fF t b' s e T' h;have hb:b'≠b:=λe'=>hne (hs.ek t k b _ _ (e'▸h) ht);refine⟨oO,k2,jE _ _ _ _ _ _ kt,λi hi hi'=>?_⟩;simp_all
theorem tM (G:aV)(k:Nat):(G.free k).tail k=none:=by simp[aV.free]
theorem zx {aZ:Nat->Nat->Prop}{W:World}{b off e c:Nat}{xs:List (List AV)}(hc:xs.length<=c)(hl:∀zs,zs∈xs->zs.length=e)(h:∀(i:Nat)(zs:List AV)(j:Nat)(z:AV),xs[i]?=some zs->zs[j]?=some z->∃u,z.one=true/\W.cell? ⟨b,off+(i*e+j),none⟩=some u/\aZ b (off+(i*e+j))/\dh aZ W u z):dh aZ W (.slice (some ⟨b,off,none⟩) xs.length c) (.sl xs):=dh.PZ hc (λi ys hys=>hl _ (bz hys)) λi ys j y h1 h2=>by grind
theorem Qo (hs:bp E G S a w){k:Nat}{xs ys:List (List AV)}{ad:Option Addr}{c:Nat}{yv:Value}{t u elem ty:TypeId}{dd:TypeDesc}{i:jX}{news:List Value}(ht:E.C.P.underlying t=some (.slice elem))(hu:E.C.P.underlying u=some dd)(hd:∀k,dd≠.int k)(hi:fJ E.C.P elem i)(hx:dh G.aZ w (.slice ad xs.length c) (.sl xs))(GX:∀zs,zs∈xs->zs.length=i.size)(zy:∀zs,zs∈ys->zs.length=i.size)(hle:xs.length<=c)(hroom:(xs=[]/\c=0)\/(ys≠[]/\c=xs.length)\/∃b off,ad=some ⟨b,off,none⟩/\G.tail k=some (b,off+xs.length*i.size,off+c*i.size,elem))(hn:Flat G.aZ w i.size ys news)(hl:(Builtin.lenOf yv).run E.C.P w=.ok ys.length w)(hf:∀w',(∀b o,w'.cell? ⟨b,o,none⟩=w.cell? ⟨b,o,none⟩)->(Builtin.firstCells i.size ys.length yv).run E.C.P w'=.ok news.toArray w')(hb:(xs.length+ys.length)*i.bytes<=2^47)(hb0:i.bytes≠0):∃v' w' G',(Builtin.append_ #[t,u] ty #[.slice ad xs.length c,yv]).run E.C.P w=.ok v' w'/\bp E G' (S.kill k) a w'/\aT G' w' v' (.eH k elem i.size (xs++ys)):=by
 by_cases h0:ys=[];subst h0;have hnews:news=[]:=bK.1 (by rw[hn.len];simp);subst hnews;refine⟨_,w,G,mP ht hu hd hi hl (hf w λ_ _=>rfl) hle,hs.af0 k rfl (λ_ _ _ h=>h) (λ_ _ _ h=>h) (λ_ _ h=>h) (λ_ _ h=>h) (λ_ _=>rfl) (λ_ _ h=>h),?_⟩;have :=aT.eH (G:=G) (w:=w) k elem i.size xs ad c hx (hroom.imp id λh=>by simp_all);simp_all;have hm:0<ys.length:=jr.2 h0;by_cases hc:xs.length+ys.length<=c;rcases hroom with hroom|hroom|⟨b,off,rfl,Ky⟩;omega;omega;obtain⟨t1,t2,tt,t3⟩:=hs.fF _ _ _ _ _ Ky;have hq:off+xs.length*i.size+news.length<=off+c*i.size:=by have :=dO i.size hc;rw[bC]at this;rw[hn.len];omega
 have hrun:=nS (P:=E.C.P) (w:=w) (ty:=ty) (b:=b) (off:=off) ht hu hd hi hl (hf w λ_ _=>rfl) hc (λj hj=>by obtain⟨⟨u,hu⟩,-,-⟩:=t3 (off+xs.length*i.size+j) oO oO;simp_all) (λj hj=>(t3 (off+xs.length*i.size+j) oO oO).2.1) hn.one;obtain⟨f1,f2,f3⟩:=hs.aag (news:=news) Ky hq;have hg:=f1.AA (t:=k) (B:=b) (s:=off+xs.length*i.size+news.length) (e:=off+c*i.size) (T:=elem) (tM G k) (by rw[jD];omega) t2 (jE _ _ _ _ _ _ tt) (λo h=>by simp only[aV.free]at h;split at h;cases h;rename_i hne;exact hne (wP (hs.cE o k b _ h Ky).1.symm)) (λt' r h=>by simp only[aV.free]at h;split at h;grind;rename_i hne;exact hne (hs.ek t' k b _ _ h Ky)) (λo h=>by simp only[aV.free]at h;split at h;cases h;exact(hs.jl.row o b h).2.2.2.2.1 k _ Ky) (λj hj hj'=>by obtain⟨⟨u,hu⟩,g2,g3⟩:=t3 j oO oO;refine⟨⟨u,?_⟩,by rw[World.frozen?_setCells];omega,?_⟩;rw[World.cell?_setCells_out b news _ w ⟨b,j,none⟩ (λ_ _=>by simp_all)];omega;simp_all);refine⟨_,_,_,hrun,hg,?_⟩;have hlen:(xs++ys).length=xs.length+ys.length:=aq;suffices h:aT _ (w.setCells b (off+xs.length*i.size) news) (.slice (some ⟨b,off,none⟩) (xs++ys).length c) (.eH k elem i.size (xs++ys))by rw[hlen]at h;exact h
 refine .eH k elem i.size (xs++ys) _ c ?_ (.inr ⟨b,off,rfl,λzs hz=>(bh.1 hz).elim (GX zs) (zy zs),?_⟩);refine zx oO (λzs hz=>(bh.1 hz).elim (GX zs) (zy zs)) λp zs j z hp hj=>?_;have hjl:j<i.size:=by have h1:=(aG.1 hj).1;have h2:zs∈xs++ys:=bz hp;rw[(bh.1 h2).elim (GX zs) (zy zs)]at h1;exact h1
 rw[xy]at hp;by_cases Zv:p<xs.length;rw[af Zv]at hp;obtain⟨_,_,hv,-,hne⟩:=hx.lD;obtain⟨b2,off2,bP,cell,rfl,g1,g2⟩:=hne (λe=>by simp_all);injection hv with e1 e2 e3;have e1:=au e1;injection e1 with q1 q2;subst q1;subst q2;obtain rfl:bP=i.size:=(g1 p _ hp).symm.trans (GX _ (bz hp));obtain⟨k1,k2,k3,k4⟩:=g2 _ _ _ _ hp hj;rw[gj]at k2 k3;exact⟨_,k1,f3 _ _ _ k3 k2,.inl k3,k4.keep (λ_ _ h=>.inl h) f3 ((fZ.setCells b _ _ _).qO _)⟩;rw[aa Zv]at hp;obtain⟨u,k1,k2,k3⟩:=hn.at_ _ _ _ _ hp hj;have Zw:(p-xs.length)*i.size+j<news.length:=(aG.1 k1).1;have aah:off+(p*i.size+j)=off+xs.length*i.size+((p-xs.length)*i.size+j):=by
  have :p=xs.length+(p-xs.length):=oO
  have h2:p*i.size=xs.length*i.size+(p-xs.length)*i.size:=by rw[<-bC,<-this]
  omega
 have hin:=World.cell?_setCells_in b news (off+xs.length*i.size) w (λq NC=>by obtain⟨⟨u,hu⟩,-,-⟩:=t3 (off+xs.length*i.size+q) oO oO;simp_all) _ Zw;refine⟨u,k3,?_,.inr ⟨rfl,oO,oO⟩,k2.keep (λ_ _ h=>.inl h) f3 ((fZ.setCells b _ _ _).qO _)⟩;simp_all;simp only[if_true];rw[hn.len,hlen,bC,gj];obtain⟨olds,LC,-,ho3⟩:=xu (P:=E.C.P) hx GX;obtain⟨rest,z,hz,qI,hrun⟩:=iS (P:=E.C.P) (w:=w) (ty:=ty) (base:=ad) (news:=news) (olds:=olds) ht hu hd hi hl hf ho3 hc hb hb0;have hcap:xs.length+ys.length<=grownCap w (xs.length+ys.length) c elem:=grownCap_ge w _ _ _;generalize hcg:grownCap w (xs.length+ys.length) c elem=cap at*;generalize hW:w.drew.alloc (.cells (olds.toArray++news.toArray++rest) elem)=W at*;have GY:Below w.drew.heap.size w.drew W:=by rw[<-hW];exact(Below.refl _ _).alloc (ay _) _
 have hWs:W.heap.size=w.heap.size+1:=by rw[<-hW];simp
 have hrl:rest.size=(cap-(xs.length+ys.length))*i.size:=by rw[qI,size_zeroCells,hz]
 have hcell:∀q,W.cell? ⟨w.heap.size,q,none⟩=(olds.toArray++news.toArray++rest)[q]?:=λq=>by rw[<-hW];exact World.cell?_alloc_new w.drew _ elem q
 have hfz:∀q,W.frozen? ⟨w.heap.size,q,none⟩=false:=λq=>by rw[<-hW];exact World.frozen?_alloc_new w.drew _ elem q
 have hold:∀b q,b<w.heap.size->W.cell? ⟨b,q,none⟩=w.cell? ⟨b,q,none⟩:=λb q hlt=>by rw[<-hW];exact World.cell?_alloc_lt w.drew _ ⟨b,q,none⟩ hlt
 have h1:=(hs.drew.Nu (w':=W) GY (λb q=>b=w.heap.size/\q<(xs.length+ys.length)*i.size)).kill k;have hg:=h1.AA (t:=k) (B:=w.heap.size) (s:=(xs.length+ys.length)*i.size) (e:=cap*i.size) (T:=elem) (tM _ k) oO hs.kept.size (by rw[<-hW];exact⟨_,_,World.alloc_heap_new w.drew _,trivial⟩) (λo h=>by simp only[aV.free]at h;split at h;grind;have :=(hs.iz o _ h).1;omega) (λt' r h=>by simp only[aV.free]at h;split at h;grind;have :=(hs.fF t' _ r.1 r.2.1 r.2.2 h).1;omega) (λo h=>by simp only[aV.free]at h;split at h;grind;have :=(hs.jl.row o _ h).2.1;omega) (λq hq NC=>by
  refine⟨?_,hfz q,?_⟩;rw[hcell q];have :q<(olds.toArray++news.toArray++rest).size:=by simp only[Array.size_append,List.size_toArray,LC.len,hn.len,hrl,<-bC];rw[show xs.length+ys.length+(cap-(xs.length+ys.length))=cap from oO];exact NC
  simp_all;rintro(h|⟨-,-,-,h⟩);have :=hs.fo _ _ h;omega;omega);refine⟨_,W,_,hrun,hg,?_⟩;have hlen:(xs++ys).length=xs.length+ys.length:=aq;suffices h:aT _ W (.slice (some ⟨w.heap.size,0,none⟩) (xs++ys).length cap) (.eH k elem i.size (xs++ys))by rw[hlen]at h;exact h
 have hkeep:∀{u:Value}{z:AV},dh G.aZ w u z->dh (λb o=>G.aZ b o\/(w.drew.heap.size<=b/\b<W.heap.size/\b=w.heap.size/\o<(xs.length+ys.length)*i.size)) W u z:=λh=>h.keep (λ_ _ h=>.inl h) (λb o c hi hc=>by rw[hold b o (hs.fo b o hi)];omega) (λb es n hi hb=>(GY.block b (hs.fo b 0 hi)).trans hb);refine .eH k elem i.size (xs++ys) _ cap ?_ (.inr ⟨w.heap.size,0,rfl,λzs hz=>(bh.1 hz).elim (GX zs) (zy zs),?_⟩);refine zx oO (λzs hz=>(bh.1 hz).elim (GX zs) (zy zs)) λp zs j z hp hj=>?_;have hjl:j<i.size:=by have h1:=(aG.1 hj).1;have h2:zs∈xs++ys:=bz hp;rw[(bh.1 h2).elim (GX zs) (zy zs)]at h1;exact h1
 have Zv:p<xs.length+ys.length:=by rw[<-hlen];exact(aG.1 hp).1
 have agN:p*i.size+j<(xs.length+ys.length)*i.size:=by have :(p+1)*i.size<=(xs.length+ys.length)*i.size:=dO _ Zv;rw[bC]at this;omega
 rw[cM];have CG:(λb o=>G.aZ b o\/(w.drew.heap.size<=b/\b<W.heap.size/\b=w.heap.size/\o<(xs.length+ys.length)*i.size)) w.heap.size (p*i.size+j):=.inr ⟨ay _,oO,rfl,agN⟩;rw[xy]at hp;by_cases aaj:p<xs.length;rw[af aaj]at hp;obtain⟨u,k1,k2,k3⟩:=LC.at_ _ _ _ _ hp hj;have Zw:=(aG.1 k1).1;refine⟨u,k3,?_,CG,hkeep k2⟩;grind;rw[aa aaj]at hp;obtain⟨u,k1,k2,k3⟩:=hn.at_ _ _ _ _ hp hj;have Zw:=(aG.1 k1).1;have aah:p*i.size+j=olds.length+((p-xs.length)*i.size+j):=by
  have :p=xs.length+(p-xs.length):=oO
  have h2:p*i.size=xs.length*i.size+(p-xs.length)*i.size:=by rw[<-bC,<-this]
  rw[LC.len];omega
 refine⟨u,k3,?_,CG,hkeep k2⟩;rw[hcell,tc (by simp_all),ND (by simp_all),aah];simp[k1];simp_all
theorem bp.aak (h1:bp E G S a w){d b:Nat}(hdn:d≠999999){cells:List FV}(hl:G.loc d=none)(hb0:lN S.cL d=none)(hno:∀o,G.loc o≠some b)(Ky:∀t r,G.tail t≠some (b,r))(hrow:∀o,G.row o≠some b)(hmap:∀es k,w.heap[b]?≠some (.map es k))(hlt:b<w.heap.size)(hw0:E.w0.heap.size<=b)(him:∀i,¬G.aZ b i/\w.frozen? ⟨b,i,none⟩=false)(hc:∀(i:Nat)(x:FV),cells[i]?=some x->∃c,w.cell? ⟨b,i,none⟩=some c/\aT G w c x):bp E {G with loc:=λo=>if o=d then some b else G.loc o} {S with aN:=(d,cells)::S.aN} a w:=by have up:∀v x,aT G w v x->aT {G with loc:=λo=>if o=d then some b else G.loc o} w v x:=λv x h=>h.keep (λ_ _ h=>h) (λ_ _ _ _ h=>h) (.refl _ _) (λo b' h=>by grind) (λ_ _ h=>h);refine⟨h1.kept,h1.size,h1.ext'.keep rfl rfl rfl up (.refl _) (Kw:=.more rfl rfl rfl rfl (λ_ _ h=>.inl h) (λ_ h=>h) λo b' h=>?_),?_,h1.oy,h1.fo,λi hi=>up _ _ (h1.tmps i hi),λo cs ho=>?_,λo b' ho=>?_,λo o' b' h h'=>?_,λo t b' r h h'=>?_,h1.fF,h1.ek⟩;grind;refine h1.jl.keep rfl rfl (λo bs q=>⟨q,?_,rfl⟩) (λo bs q0 q=>?_) (λ_ _ e=>e) (ay _) (λ_ _ _ _ _ _=>rfl) (λ_ _ _=>rfl) (λ_ _ _ _ e=>e) (λo r o' e q=>?_) (λ_ _ t q _ e=>⟨t,q,e⟩);grind;simp only[Qv.getObj];split;simp_all;omega;grind;simp only[Qv.getObj]at ho;split at ho;rename_i Qm;obtain rfl:=aP Qm;grind;rename_i Qm;have hne:o≠d:=eO (bt Qm);obtain⟨b',h2,h3⟩:=h1.aN o cs ho;grind;simp only at ho;split at ho;rename_i e;obtain rfl:=au ho;exact⟨hlt,.inl ⟨hw0,λe'=>absurd (e.symm.trans e') hdn⟩,him⟩;exact h1.iz o b' ho;simp only at h h';split at h<;>split at h';omega;simp_all;simp_all;exact h1.fk o o' b' h h';simp only at h h';split at h;simp_all;rename_i hne;refine lF.mono (h1.cE o t b' r h h') (λbs q=>⟨bs,q⟩) λcs q=>?_;simp only[Qv.getObj]at q;split at q;simp_all;simp_all
theorem iZ:∀l:List AV,(aH l).length=l.length|[]=>rfl|_::l=>by simp[aH,iZ l]
theorem ue:∀(l:List AV)(i:Nat),(aH l)[i]?=(l[i]?).map FV.p
 |[],i=>by rfl
 |x::l,0=>rfl
 |x::l,i+1=>by simpa[aH]using ue l i
theorem gG {α:Type}{e:Nat}:∀{l:List (List α)},(∀zs,zs∈l->zs.length=e)->l.flatten.length=l.length*e
 |[],_=>by simp
 |x::l,h=>by rw[nM,aq,h x (by simp),gG (λzs hz=>h zs (by grind)),aL,bC];omega
theorem iT (d:Nat)(l:List (Nat×List UInt8)):lN (Ct d l) d=none:=by
 cases h:lN (Ct d l) d with
 |none=>rfl
 |some bs=>exact absurd rfl (kq h).1
end
end Qv
