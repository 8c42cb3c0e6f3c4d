/- Part 11 of the proof: its lemmas. No condition. -/
import Derived.Test.YtlbofhenpfnenaaGreatDoorU10
import Derived.Laws.MakeOwn
set_option maxRecDepth 10000
set_option maxHeartbeats 80000000
set_option linter.all false
namespace Qv
open Go Go.RowKit
section
variable {E:Env}{G:aV}{S:ai}{a:Act}{w:World}{o:Oper}
theorem adY {α:Type}{xs:List α}{n:Nat}{y:α}(h:n<xs.length):KG xs n y=some (xs.set n y):=by
 induction xs generalizing n with
 |nil=>grind
 |cons x xs ih=>
  cases n with
  |zero=>rfl
  |succ n=>simp only[KG,ih (by simpa using h),List.set_cons_succ]
theorem Di {α:Type}{A B:List α}{base:Nat}(hA:A.length=base):∀{cs ys zs:List α}{off:Nat},gD ys off cs=some zs->gD (A++(ys++B)) (base+off) cs=some (A++(zs++B))
 |[],ys,zs,off,h=>by simp only[gD,bN]at h⊢;rw[h]
 |c::cs,ys,zs,off,h=>by simp only[gD]at h⊢;split at h;rename_i us SQ;obtain⟨h1,rfl⟩:=LA SQ;rw[adY (by grind)];simp only;rw[List.set_append_right _ _ oO,hA,show base+off-base=off by omega,List.set_append_left _ _ h1];exact Di hA h;simp_all
theorem Iq (hs:bp E G S a w){t e:TypeId}{len:Nat}{parts:Array (Nat×Operand)}{j:jX}{cs:List FV}{sa sb:Nat}{sz:List Value}(ho:o.op=.buildSlice t len parts)(ht:bU E.C.jG t=some ⟨sa,sb,.slice e,sz⟩)(hj:bU E.C.jG e=some j)(hle':len*j.size<=1000000)(hcs:fK j.size S parts.toList (ov len (j.zero.map FV.gP))=some cs):∃us:Array Value,(execOp a.eval o).run E.C.P w=.ok (.value (.slice (some ⟨w.heap.size,0,none⟩) len len)) (w.alloc (.cells us e))/\zu G w us.toList cs/\us.size=len*j.size:=by
 have hu:=(E.C.ok ht).slice;have hok:=E.C.ok hj;obtain⟨z,hzr,Hv⟩:=hok.zeroV w;have akB:z.cells.size=j.size:=by rw[<-js,Hv,hok.len]
 have hbase:∀zz:Array Value,(len*j.size=0\/zz=z.cells)->((Array.range (len*j.size)).map (zz[·%zz.size]!)).toList=ov len j.zero:=λzz hzz=>by obtain⟨r1,r2⟩:=rY j.zero len;rw[hok.len]at r1 r2;apply fO;grind
 have hrl:∀zz:Array Value,(len*j.size=0\/zz=z.cells)->zu G w ((Array.range (len*j.size)).map (zz[·%zz.size]!)).toList (ov len (j.zero.map FV.gP)):=λzz hzz=>by rw[hbase zz hzz,Io];exact qS _
 obtain⟨us,SQ,oz⟩:∃us,(∀zz:Array Value,(len*j.size=0\/zz=z.cells)->Instr.fill (λi=>some (i*j.size,j.size)) ((Array.range (len*j.size)).map (zz[·%zz.size]!)) (parts.toList.map λ(i,x)=>(i,a.eval x))=some us)/\zu G w us.toList cs:=by obtain⟨us,h3,h4⟩:=sI hs parts.toList _ _ _ (hrl z.cells (.inr rfl)) hcs;grind
 have aab:¬len*j.size>2^24:=oO
 have hrun:(execOp a.eval o).run E.C.P w=.ok (.value (.slice (some ⟨w.heap.size,0,none⟩) len len)) (w.alloc (.cells us e)):=by
  by_cases h0:len*j.size=0;have h5:=SQ #[] (.inl h0);have h5':Instr.fill (λi=>some (i*j.size,j.size)) #[] (List.map (λx=>(x.1,a.eval x.2)) parts.toList)=some us:=by
   have h6:(Array.range (len*j.size)).map ((#[]:Array Value)[·%(#[]:Array Value).size]!)=#[]:=by rw[h0];simp
   rw[h6]at h5;exact h5
  have hm0:∀f:Nat->Value,(Array.range 0).map f=#[]:=λf=>by simp
  simp only[execOp,ho,Instr.buildSlice,Sem.run_bind,run_underlying hu,Result.andThen_ok,hok.sizeOf,aab,if_false,h0,if_true,Sem.run_pure,nP];simp only[show¬(0>2^24)from oO,if_false,Sem.run_pure,Result.andThen_ok,hm0,h5'];rfl;have h5:=SQ z.cells (.inr rfl);simp only[execOp,ho,Instr.buildSlice,Sem.run_bind,run_underlying hu,Result.andThen_ok,hok.sizeOf,aab,if_false,h0,Sem.run_pure,hzr,nP];simp only[h5];rfl
 have hlen:us.size=len*j.size:=by
  have h6:us.size=cs.length:=by rw[<-oz.1];simp
  have h7:∀(parts:List (Nat×Operand))(xs zs:List FV),fK j.size S parts xs=some zs->zs.length=xs.length:=by
   intro parts;induction parts with
   |nil=>intro xs zs h;simp only[fK,bN]at h;rw[h]
   |cons p parts ih=>obtain⟨i,x⟩:=p;intro xs zs h;simp only[fK]at h;split at h;split at h;grind;rename_i us SQ;rw[ih _ _ h,(rM SQ).1];simp_all
  rw[h6,h7 _ _ _ hcs,(rY _ _).1];simp[hok.len]
 grind
theorem xz (w:World)(us:Array Value)(e:TypeId){t:Nm}:∃cs fr,(w.alloc (.cells us e)).heap[w.heap.size]?=some (.cells cs e fr)/\adT t fr:=⟨_,_,World.alloc_heap_new w _,by cases t<;>trivial⟩
theorem wp_openSlice (hs:bp E G S a w){t e:TypeId}{len:Nat}{parts:Array (Nat×Operand)}{d0:Nat}{K:ai->Prop}{sa sb:Nat}{sz:List Value}(ho:o.op=.buildSlice t len parts)(Gd:o.dst=some d0)(ht:bU E.C.jG t=some ⟨sa,sb,.slice e,sz⟩)(h:zc E.C S e d0 len parts.toList K){next:Act->World->Prop}{Q:Exit->Act->World->Prop}(hn:∀S' a' w',K S'->pV E S' a' w'->next a' w'):Dd E o a w next Q:=by
 unfold zc Ga at h;split at h;simp_all;rename_i j hj;split at h;rename_i hle h0;have hpos:0<j.size:=xx (bt h0);split at h;rename_i cs hcs;split at h;simp_all;rw[jY,lX]at h;obtain⟨hdn,h⟩:=h;have hdn:=bt hdn;obtain⟨us,hrun,oz,hsz⟩:=Iq hs ho ht hj (gT hle) hcs;generalize hd:S.off+d0=d at h hdn;obtain⟨G2,g1,g2,g3,g4,g5,g6,g7,g8⟩:=uP hs d hdn us.toList cs e λi x hx=>by
  have hl:i<us.toList.length:=by rw[oz.1];exact(aG.1 hx).1
  exact⟨_,av hl,oz.2 i _ x (av hl) hx⟩
 rw[Dj]at g1;have jH:cs.length=len*j.size:=by rw[<-oz.1,js,hsz]
 have hg:=g1.vT (t:=d) (B:=w.heap.size) (s:=len*j.size) (e:=len*j.size) (T:=e) g4 (by simp) hs.kept.size (xz w us e) (λo q=>by have :o=d:=iU λhne=>g6 o hne q;subst this;refine⟨rfl,?_,λcells hc=>?_⟩;exact iT _ _;simp only[Qv.getObj,gU]at hc;obtain rfl:=au hc;rw[FV.fq,aj,jH]) (λt' r q=>g5 t' r q) (λo q=>g7 o q) (λi h1 h2=>oO);refine wp_value hrun ?_;rw[Gd];exact hn _ _ _ h ⟨_,hg.put (some d0) (x:=.fe d e j.size) (.fe d e j.size len len w.heap.size g2 (by simp) (ay _) hpos)⟩;simp_all;simp_all
theorem wp_make (hs:bp E G S a w){t:TypeId}{len cap:Operand}{d0:Nat}{K:ai->Prop}(ho:o.op=.makeSlice t len cap)(Gd:o.dst=some d0)(h:Ta E.C S t d0 (S.val len) (S.val cap) K){next:Act->World->Prop}{Q:Exit->Act->World->Prop}(hn:∀S' a' w',K S'->pV E S' a' w'->next a' w'):Dd E o a w next Q:=by
 have hlv:=aT.val hs len;have hcv:=aT.val hs cap;generalize S.val len=vl at h hlv;generalize S.val cap=vc at h hcv;unfold Ta at h;split at h;rename_i e _ ht;have hu:=(E.C.ok ht).slice;split at h;rename_i bytes sh z hj;have hok:=E.C.ok hj;split at h;rename_i k n k' n';obtain⟨m,rfl,rfl,hb,h63,h⟩:=h;rw[lX]at h;obtain⟨hdn,cs,rfl,h⟩:=h;have hdn:=bt hdn;have e1:=hlv.fN;have e2:=hcv.fN;obtain⟨inf,z',hi,hsz,hby,hz,Hv⟩:=hok.info';simp only at hsz hby Hv;have akI:z'.cells=#[z]:=by apply iO.1;rw[Hv]
 have hrun:=run_make (P:=E.C.P) w t e inf z' hu hi hz k k' (m:Int) (m:Int) oO oO (by grind) oO;rw[akI,hsz,gR,td]at hrun;have hmc:madeCells #[z] m=(List.replicate m z).toArray:=by apply iO.1;apply fO;intro i;simp only[madeCells,nP,aR,Array.toList_range,List.getElem?_replicate];by_cases hi:i<m;grind;simp_all
 rw[hmc]at hrun;generalize hd:S.off+d0=d at h hdn;obtain⟨G2,g1,g2,g3,g4,g5,g6,g7,g8⟩:=uP hs d hdn (List.replicate m z) (List.replicate m (FV.gP z)) e λi x hx=>by rw[List.getElem?_replicate]at hx;split at hx;rename_i hi;obtain rfl:=au hx;exact⟨z,by simp_all,uO _ _ _⟩;simp_all
 have hg:=g1.vT (t:=d) (B:=w.heap.size) (s:=m*1) (e:=m*1) (T:=e) g4 (by simp) hs.kept.size (xz w _ e) (λo q=>by have :o=d:=iU λhne=>g6 o hne q;subst this;refine⟨rfl,iT _ _,λcells hc=>?_⟩;simp only[Qv.getObj,gU]at hc;obtain rfl:=au hc;rw[FV.fq,aj,List.length_replicate,td]) (λt' r q=>g5 t' r q) (λo q=>g7 o q) (λi h1 h2=>oO);refine wp_value (v:=.slice (some ⟨w.heap.size,0,none⟩) m m) (w':=w.alloc (.cells (List.replicate m z).toArray e)) ?_ ?_;simp[execOp,ho,e1,e2,hrun];rw[Gd];exact hn _ _ _ h ⟨_,hg.put (some d0) (x:=.fe d e 1) (.fe d e 1 m m w.heap.size g2 (by simp) (ay _) oO)⟩;simp_all;simp_all;simp_all
theorem BI {P:Program}(hs:bp E G S a w){k n c b:Nat}{bP:Nat}{T:TypeId}{xs:List FV}(hk:Qv.getObj S.aN k=some xs)(hl:G.loc k=some b)(ht:G.tail k=some (b,n*bP,c*bP,T)):∃news:List Value,news.length=n*bP/\(∀(i:Nat)(x:FV),xs[i]?=some x->∃u,news[i]?=some u/\aT G w u x)/\∀w',(∀b o,w'.cell? ⟨b,o,none⟩=w.cell? ⟨b,o,none⟩)->(Builtin.firstCells bP n (.slice (some ⟨b,0,none⟩) n c)).run P w'=.ok news.toArray w':=by
 have hlen:=(hs.cE k k b _ hl ht).2.2 xs hk;simp only at hlen;obtain⟨b',h1,h2⟩:=hs.aN k xs hk;obtain rfl:b'=b:=by simp_all
 let f:Nat->Value:=λq=>(w.cell? ⟨b',q,none⟩).getD undef;have hf:∀q,q<n*bP->w.cell? ⟨b',q,none⟩=some (f q):=λq hq=>by
  have hql:q<xs.length:=oO
  obtain⟨u,h3,-⟩:=h2 q _ (av hql);grind
 refine⟨(List.range (n*bP)).map f,by simp,λi x hx=>?_,λw' hw=>?_⟩;grind;have :=run_loadCells (P:=P) w' ⟨b',0,none⟩ (n*bP) f (λq NC=>by rw[Addr.add_lit,hw,cM];simp_all);simpa[Builtin.firstCells]using this
theorem bp.Qp (hs:bp E G S a w){k b s0 e0:Nat}{T:TypeId}{xs ys:List FV}{news:List Value}(hk:Qv.getObj S.aN k=some xs)(hl:G.loc k=some b)(ht:G.tail k=some (b,s0,e0,T))(hn:s0+news.length<=e0)(hr:∀(i:Nat)(x:FV),ys[i]?=some x->∃u,news[i]?=some u/\aT G w u x)(hlen:ys.length=news.length):bp E {G with tail:=λt=>if t=k then some (b,s0+news.length,e0,T)else G.tail t} {S.kill k with aN:=(k,FV.eL k (xs++ys))::en k S.aN} a (w.setCells b s0 news):=by
 obtain⟨t1,t2,tt,t3⟩:=hs.fF k b s0 e0 T ht;obtain⟨-,l2,l3⟩:=hs.iz k b hl;obtain⟨-,hnb,aal⟩:=hs.cE k k b _ hl ht;have hxl:xs.length=s0:=aal xs hk;clear aal;obtain⟨b',hb',hcell⟩:=hs.aN k xs hk;obtain rfl:b'=b:=by simp_all
 have hout:∀b2 i,b2≠b'->(w.setCells b' s0 news).cell? ⟨b2,i,none⟩=w.cell? ⟨b2,i,none⟩:=λb2 i hne=>World.cell?_setCells_out b' _ s0 w ⟨b2,i,none⟩ (λe=>absurd e hne);have hfz:∀x,(w.setCells b' s0 news).frozen? x=w.frozen? x:=λx=>World.frozen?_setCells b' _ s0 w x;have hsz:=jD b' news s0 w;let G':aV:={G with tail:=λt=>if t=k then some (b',s0+news.length,e0,T)else G.tail t};have up:∀v x,aT G w v x->aT G' (w.setCells b' s0 news) v (x.kill k):=λv x hv=>by have h1:aT {G with tail:=λt=>if t=k then none else G.tail t} w v (x.kill k):=hv.kill k rfl (λ_ _ _ h=>h) (λt r hne h=>by simp_all);refine h1.keep (λ_ _ h=>h) (λb2 i c hi hc=>?_) ((fZ.setCells b' _ _ _).qO _) (λ_ _ h=>h) (λt r h=>?_);grind;grind
 refine⟨hs.kept.setCells (l2.imp (·.1) (λh=>Env.CC h.2)) _ _,hs.size,hs.ext'.move (S':={S.kill k with aN:=(k,FV.eL k (xs++ys))::en k S.aN}) (FV.kill k) rfl rfl rfl up (.setCells b' _ _ _) (.afY k rfl rfl (.kill k rfl (λ_ _ _ h=>h) (λ_ _ h=>h) (λ_ _ _ h=>h) (λ_ _ h=>h) λ_ _ h=>h)),?_,hs.oy,λb o h=>by rw[hsz];exact hs.fo b o h,λi hi=>up _ _ (hs.tmps i hi),λo cs ho=>?_,λo b ho=>?_,hs.fk,λo t b r h h'=>?_,λt b s e T' h=>?_,λt t' b r r' h h'=>?_⟩;refine hs.jl.keep rfl rfl (λo bs q=>⟨(kq q).2,rfl,rfl⟩) (λo bs q0 q=>?_) (λ_ _ e=>e) oO (λo bs b q q2 e=>gO _ _ _ _ _ (λe2=>?_)) (λo r e=>gO _ _ _ _ _ (λe2=>(hs.jl.row o r e).2.2.2.1 k (e2▸hl))) (λ_ _ _ _ e=>e) (λ_ _ _ _ e=>e) (λo r t q _ e=>?_);simp only[Qv.getObj];split;simp_all;exact oZ q;have :=hs.fk o k b e (e2▸hl);simp_all;grind;simp only[Qv.getObj]at ho;split at ho;rename_i Qm;obtain rfl:=aP Qm;obtain rfl:=au ho;refine⟨b',hl,λi x hx=>?_⟩;rw[FV.fq,aR]at hx;cases hy:(xs++ys)[i]?with
 |none=>simp_all
 |some y=>rw[hy]at hx;obtain rfl:=au hx;by_cases hi:i<xs.length;rw[cO hi]at hy;obtain⟨c,h2,h3⟩:=hcell i y hy;refine⟨c,?_,up _ _ h3⟩;rw[World.cell?_setCells_out b' _ s0 w ⟨b',i,none⟩ (λ_ _=>by simp_all)];omega;rw[dY oO]at hy;obtain⟨u,h2,h3⟩:=hr _ y hy;have Zw:i-xs.length<news.length:=(aG.1 h2).1;have hin:=World.cell?_setCells_in b' news s0 w (λq NC=>by grind) _ Zw;grind
 rename_i Qm;obtain⟨hne,cs0,h2,rfl⟩:=kR ho;obtain⟨b2,h3,h4⟩:=hs.aN o cs0 h2;have wM:b2≠b':=λe=>hne (hs.fk o k b2 h3 (e▸hl));refine⟨b2,h3,λi x hx=>?_⟩;rw[FV.fq,aR]at hx;grind;obtain⟨k1,k2,k3⟩:=hs.iz o b ho;simp_all;simp only at h h';split at h';rename_i NF;have :=au h';injection this with q1 q2;subst q1;subst q2;subst NF;obtain rfl:=hs.fk o k b' h hl;refine⟨rfl,iT _ _,λcells hc=>?_⟩;simp only[Qv.getObj,gU]at hc;obtain rfl:=au hc;rw[FV.fq,aj,aq,hxl,hlen];rename_i hne;have h1:=hs.cE o t b r h h';have hto:=h1.1;refine lF.mono h1 (λbs q=>⟨bs,(kq q).2⟩) λcells q=>?_;simp only[Qv.getObj]at q;split at q;simp_all;obtain⟨-,cs0,h2,rfl⟩:=kR q;exact⟨cs0,h2,by rw[FV.fq,aj]⟩;simp only at h;split at h;rename_i et;have :=au h;injection this with q1 q2;injection q2 with q2 q3;injection q3 with q3 q4;subst q1;subst q2;subst q3;subst q4;subst et;refine⟨oO,t2,jE _ _ _ _ _ _ tt,λi hi hi'=>?_⟩;obtain⟨⟨c,k4⟩,k5,k6⟩:=t3 i oO hi';refine⟨⟨c,?_⟩,by simp_all,k6⟩;rw[World.cell?_setCells_out b' _ s0 w ⟨b',i,none⟩ (λ_ _=>by simp_all)];omega;rename_i hne;obtain⟨k1,k2,kt,k3⟩:=hs.fF t b s e T' h;have wM:b≠b':=λe'=>hne (hs.ek t k b' _ _ (e'▸h) ht);refine⟨oO,k2,jE _ _ _ _ _ _ kt,λi hi hi'=>?_⟩;simp_all;simp only at h h';split at h<;>split at h';simp_all;obtain⟨rfl,-⟩:=gV (au h);exact(hs.ek _ _ _ _ _ ht h').symm▸oO;obtain⟨rfl,-⟩:=gV (au h');exact(hs.ek _ _ _ _ _ h ht).trans (by grind);exact hs.ek t t' b r r' h h'
theorem AB (hs:bp E G S a w)(d:Nat)(hdn:d≠999999){zs:List FV}{cells:List Value}{s cap:Nat}{e:TypeId}(hlen:zs.length=s)(jH:cells.length=cap)(hr:∀(i:Nat)(x:FV),zs[i]?=some x->∃c,cells[i]?=some c/\aT G w c x):∃G',bp E G' {S.kill d with aN:=(d,FV.eL d zs)::en d S.aN} a (w.alloc (.cells cells.toArray e))/\G'.loc d=some w.heap.size/\G'.tail d=some (w.heap.size,s,cap,e):=by obtain⟨G2,g1,g2,g3,g4,g5,g6,g7,g8⟩:=uP hs d hdn cells zs e hr;have hg:=g1.vT (t:=d) (B:=w.heap.size) (s:=s) (e:=cap) (T:=e) g4 (by simp) hs.kept.size (xz w _ e) (λo q=>by have :o=d:=iU λhne=>g6 o hne q;subst this;refine⟨rfl,iT _ _,λcells hc=>?_⟩;simp only[Qv.getObj,gU]at hc;obtain rfl:=au hc;rw[FV.fq,aj,hlen]) (λt' r q=>g5 t' r q) (λo q=>g7 o q) (λi h1 h2=>by simp_all);grind
theorem bp.VN (hs:bp E G S a w){k b n N bP e0:Nat}{T:TypeId}{xs:List FV}(hk:Qv.getObj S.aN k=some xs)(hl:G.loc k=some b)(ht:G.tail k=some (b,N*bP,e0,T))(hn:n<=N*bP)(hle:N*bP<=e0):bp E {G with tail:=λt=>if t=k then some (b,n,e0,T)else G.tail t} {S.kill k with aN:=(k,FV.eL k (xs.take n))::en k S.aN} a w:=by
 obtain⟨t1,t2,tt,t3⟩:=hs.fF k b _ e0 T ht;obtain⟨-,l2,l3⟩:=hs.iz k b hl;obtain⟨-,hnb,aal⟩:=hs.cE k k b _ hl ht;have hxl:xs.length=N*bP:=aal xs hk;clear aal;obtain⟨b',hb',hcell⟩:=hs.aN k xs hk;obtain rfl:b'=b:=by simp_all
 let G':aV:={G with tail:=λt=>if t=k then some (b',n,e0,T)else G.tail t};have up:∀v x,aT G w v x->aT G' w v (x.kill k):=λv x hv=>by have h1:aT {G with tail:=λt=>if t=k then none else G.tail t} w v (x.kill k):=hv.kill k rfl (λ_ _ _ h=>h) (λt r hne h=>by simp_all);refine h1.keep (λ_ _ h=>h) (λb2 i c hi hc=>hc) (wO.refl _ _) (λ_ _ h=>h) (λt r h=>?_);grind
 refine⟨hs.kept,hs.size,hs.ext'.move (S':={S.kill k with aN:=(k,FV.eL k (xs.take n))::en k S.aN}) (FV.kill k) rfl rfl rfl up (fZ.refl w) (.afY k rfl rfl (.kill k rfl (λ_ _ _ h=>h) (λ_ _ h=>h) (λ_ _ _ h=>h) (λ_ _ h=>h) λ_ _ h=>h)),?_,hs.oy,hs.fo,λi hi=>up _ _ (hs.tmps i hi),λo cs ho=>?_,hs.iz,hs.fk,λo t b r h h'=>?_,λt b s e T' h=>?_,λt t' b r r' h h'=>?_⟩;refine hs.jl.keep rfl rfl (λo bs q=>⟨(kq q).2,rfl,rfl⟩) (λo bs q0 q=>?_) (λ_ _ e=>e) (ay _) (λo bs b q q2 e=>rfl) (λo r e=>rfl) (λ_ _ _ _ e=>e) (λ_ _ _ _ e=>e) (λo r t q _ e=>?_);simp only[Qv.getObj];split;simp_all;exact oZ q;grind;simp only[Qv.getObj]at ho;split at ho;rename_i Qm;obtain rfl:=aP Qm;obtain rfl:=au ho;refine⟨b',hl,λi x hx=>?_⟩;rw[FV.fq,aR]at hx;grind;rename_i Qm;obtain⟨hne,cs0,h2,rfl⟩:=kR ho;obtain⟨b2,h3,h4⟩:=hs.aN o cs0 h2;refine⟨b2,h3,λi x hx=>?_⟩;rw[FV.fq,aR]at hx;grind;simp only at h h';split at h';rename_i NF;have :=au h';injection this with q1 q2;subst q1;subst q2;subst NF;obtain rfl:=hs.fk o k b' h hl;refine⟨rfl,iT _ _,λcells hc=>?_⟩;simp only[Qv.getObj,gU]at hc;obtain rfl:=au hc;rw[FV.fq,aj,aD,hxl];omega;rename_i hne;have h1:=hs.cE o t b r h h';have hto:=h1.1;refine lF.mono h1 (λbs q=>⟨bs,(kq q).2⟩) λcells q=>?_;simp only[Qv.getObj]at q;split at q;simp_all;obtain⟨-,cs0,h2,rfl⟩:=kR q;exact⟨cs0,h2,by rw[FV.fq,aj]⟩;simp only at h;split at h;rename_i et;have :=au h;injection this with q1 q2;injection q2 with q2 q3;injection q3 with q3 q4;subst q1;subst q2;subst q3;subst q4;subst et;refine⟨t1,t2,tt,λi hi hi'=>?_⟩;by_cases hin:i<N*bP;obtain⟨c,h2,-⟩:=hcell i _ (av oO);simp_all;simp_all;exact hs.fF t b s e T' h;simp only at h h';split at h<;>split at h';simp_all;obtain⟨rfl,-⟩:=gV (au h);exact(hs.ek _ _ _ _ _ ht h').symm▸oO;obtain⟨rfl,-⟩:=gV (au h');exact(hs.ek _ _ _ _ _ h ht).trans (by grind);exact hs.ek t t' b r r' h h'
theorem wp_evCutO (hs:bp E G S a w){K:ai->Prop}{x hi:Operand}{t:TypeId}(ho:o.op=.slice t x none (some hi) none){k:Nat}{T:TypeId}{bP:Nat}(hx:S.val x=.fe k T bP)(h:Tb E.C t o.dst S k T bP (S.val hi) K){next:Act->World->Prop}{Q:Exit->Act->World->Prop}(hn:∀S' a' w',K S'->pV E S' a' w'->next a' w'):Dd E o a w next Q:=by
 have Hw:=aT.val hs x;have hhv:=aT.val hs hi;rw[hx]at Hw;generalize S.val hi=vh at h hhv;unfold Tb at h;split at h;rename_i d _ _ e _ kk n hd ht;have KO:=(E.C.ok ht).slice;split at h;simp_all;rename_i j hj;have hjs:=(E.C.ok hj).sizeOf w;split at h;rename_i xs hb hxs;obtain rfl:=aP hb;obtain⟨hkn,hxs⟩:=jh hxs;obtain⟨m,N,rfl,hN,hm,zs,rfl,hK⟩:=h;generalize LD:a.eval x=vv at Hw;cases Hw with
 |fe _ _ _ n' c b p1 p2 p3 p4=>
  have hxl:=(hs.cE _ _ _ _ p1 p2).2.2 xs hxs;simp only at hxl;obtain rfl:N=n':=gm p4 (hN.symm.trans hxl);have hh:a.eval hi=.int kk m:=hhv.fN;have hbd:=mG (P:=E.C.P) (w:=w) true N c none (some (.int kk m)) 0 m (zL) oO (.inl ⟨rfl,rfl⟩) (.inr ⟨kk,rfl⟩);have hrun:(execOp a.eval o).run E.C.P w=.ok (.value (.slice (some ⟨b,0,none⟩) m c)) w:=by simp[execOp,ho,LD,hh,Instr.sliceAt,run_underlying KO,Instr.slice,hbd,hjs,Addr.add_lit]
  have adZ:=hs.VN hxs p1 p2 (n:=m*j.size) (dO _ hm) (dO _ p3);refine wp_value hrun (hn _ _ _ hK ⟨{G with tail:=λt=>if t=k then some (b,m*j.size,c*j.size,T)else G.tail t},?_⟩);rw[hd];exact adZ.put (some d) (v:=.slice (some ⟨b,0,none⟩) m c) (x:=.fe k T j.size) (.fe k T j.size m c b p1 (by simp_all) oO p4)
 simp_all;simp_all
theorem wp_evTailO (hs:bp E G S a w){K:ai->Prop}{x lo:Operand}{t:TypeId}(ho:o.op=.slice t x (some lo) none none){k:Nat}{T:TypeId}{bP:Nat}(hx:S.val x=.fe k T bP)(h:No E.C t o.dst S k T bP (S.val lo) K){next:Act->World->Prop}{Q:Exit->Act->World->Prop}(hn:∀S' a' w',K S'->pV E S' a' w'->next a' w'):Dd E o a w next Q:=by
 have Hw:=aT.val hs x;have hhv:=aT.val hs lo;rw[hx]at Hw;generalize S.val lo=vh at h hhv;unfold No at h;split at h;rename_i d _ _ e _ kk n hd ht;have KO:=(E.C.ok ht).slice;split at h;simp_all;rename_i j hj;have hjs:=(E.C.ok hj).sizeOf w;split at h;rename_i xs hb hxs;obtain rfl:=aP hb;obtain⟨hkn,hxs⟩:=jh hxs;obtain⟨m,N,rfl,hN,hm,hK⟩:=h;generalize LD:a.eval x=vv at Hw;cases Hw with
 |fe _ _ _ n' c b p1 p2 p3 p4=>
  have hxl:=(hs.cE _ _ _ _ p1 p2).2.2 xs hxs;simp only at hxl;obtain rfl:N=n':=gm p4 (hN.symm.trans hxl);have hh:a.eval lo=.int kk m:=hhv.fN;have hbd:=mG (P:=E.C.P) (w:=w) true N c (some (.int kk m)) none m N hm p3 (.inr ⟨kk,rfl⟩) (.inl ⟨rfl,rfl⟩);have hrun:(execOp a.eval o).run E.C.P w=.ok (.value (.slice (some ⟨b,if c=m then 0 else m*j.size,none⟩) (N-m) (c-m))) w:=by
   by_cases hcm:c=m;subst hcm;simp[execOp,ho,LD,hh,Instr.sliceAt,run_underlying KO,Instr.slice,hbd,hjs,Addr.add_lit];have h0:¬c-m=0:=oO
   simp[execOp,ho,LD,hh,Instr.sliceAt,run_underlying KO,Instr.slice,hbd,hjs,Addr.add_lit,hcm,h0]
  refine wp_value hrun (hn _ _ _ hK ⟨G,?_⟩);rw[hd];exact hs.put (some d) (x:=.uH k m T j.size) (.uH k m T j.size N c b _ p1 p2 ⟨hm,λh=>aa oO⟩ p3 p4)
 simp_all;simp_all
theorem NG {α:Type}:∀{ys xs:List α}{n:Nat},xs.length=n+ys.length->gD xs n ys=some (xs.take n++ys)
 |[],xs,n,h=>by simp only[gD,aY];rw[ck (by simp_all)]
 |y::ys,xs,n,h=>by
  have hA:(xs.take n).length=n:=by rw[aD];omega
  have e:xs=xs.take n++(xs.drop n++[]):=by rw[aY,cT]
  have hd:(xs.drop n).length=(y::ys).length:=by rw[bV];omega
  have key:∀{cs ds:List α}{pre:List α},ds.length=cs.length->gD (pre++ds) pre.length cs=some (pre++cs):=by
   intro cs;induction cs with
   |nil=>intro ds pre hl;rw[bK.1 hl];rfl
   |cons c cs ih=>
    intro ds pre hl;match ds,hl with
     |d::ds,hl=>
      have hl:ds.length=cs.length:=by simpa using hl
      have h1:KG (pre++d::ds) pre.length c=some (pre++c::ds):=by
       clear ih hl;induction pre with
       |nil=>rfl
       |cons p pre ih=>simp only[eB,aL,KG,ih]
      have h2:=ih (ds:=ds) (pre:=pre++[c]) hl;simp only[aq,fP,bf,gW]at h2;simp only[gD,h1,h2]
  grind
theorem Tq {P:Program}(w:World)(t e ty:TypeId)(z:Value)(ht:P.underlying t=some (.slice e))(hv:(zeroValue e).run P w=.ok z w)(b o n c:Nat)(hst:(storeCells ⟨b,o,none⟩ (ov n z.cells.toList) 0).run P w=.ok () (w.setCells b o (ov n z.cells.toList))):(Builtin.clear_ #[t] ty #[.slice (some ⟨b,o,none⟩) n c]).run P w=.ok (.tuple #[]) (w.setCells b o (ov n z.cells.toList)):=by
 have Hv:(Builtin.zeroCells z.cells n).toList=ov n z.cells.toList:=by
  obtain⟨g1,g2⟩:=rY z.cells.toList n;apply fO;intro i;by_cases hi:i<n*z.cells.toList.length;rw[g2 i hi];have hi':i<n*z.cells.size:=by simpa using hi
  have hpos:0<z.cells.size:=by rcases Nat.eq_zero_or_pos z.cells.size with h0|h0;simp_all;omega
  have hm:i%z.cells.size<z.cells.size:=kr _ hpos;simp[Builtin.zeroCells,hi',hm];rw[nT (l:=ov n z.cells.toList) oO,nT];have hi2:¬i<n*z.cells.size:=by simpa using hi
  simp only[Builtin.zeroCells,nP,aj,Array.toList_range,tf];omega
 cases n with
 |zero=>simp[Builtin.clear_,run_underlying ht];rfl
 |succ n=>simp[Builtin.clear_,run_underlying ht,hv,Hv,hst]
theorem wp_evAppO (hs:bp E G S a w){d:Nat}{K:ai->Prop}{x y:Operand}{t u:TypeId}(ho:o.op=.call ⟨.builtin .append,#[x,y],#[t,u]⟩)(hd:o.dst=some d){o2:Nat}{T2:TypeId}{e2:Nat}(hy:S.val y=.fe o2 T2 e2)(h:SV E.C t u d S (S.val x) o2 T2 e2 K){next:Act->World->Prop}{Q:Exit->Act->World->Prop}(hn:∀S' a' w',K S'->pV E S' a' w'->next a' w'):Dd E o a w next Q:=by
 have Hw:=aT.val hs x;have hyv:=aT.val hs y;rw[hy]at hyv;generalize S.val x=vx at h Hw;unfold SV at h;split at h;rename_i e _ ui ht hui;have KO:=(E.C.ok ht).slice;obtain⟨dd,hud,hsh⟩:=(E.C.ok hui).zm;split at h;simp_all;rename_i zB;have hdk:∀k,dd≠.int k:=λk e=>by rw[<-hsh,e]at zB;simp[shapeOf,Shape.FX]at zB
 split at h;simp_all;rename_i j hj;have hok:=E.C.ok hj;split at h;rename_i he2 hT2 hb0;obtain rfl:=aP he2;obtain rfl:=aP hT2;have hb0:=bt hb0;split at h;simp_all;rename_i ys hys;generalize Qq:a.eval y=vy at hyv;cases hyv with
 |fe _ _ _ m c2 b2 q1 q2 q3 q4=>
  have Xr:=(hs.cE _ _ _ _ q1 q2).2.2 ys hys;simp only at Xr;obtain⟨news,nl,nr,nf⟩:=BI (P:=E.C.P) hs hys q1 q2;have hl:(Builtin.lenOf (.slice (some ⟨b2,0,none⟩) m c2)).run E.C.P w=.ok m w:=by simp[Builtin.lenOf]
  have hone:ji ys=true->∀v,v∈news->v.oneCell'=true:=λh1 v hv=>by
   obtain⟨i,hi⟩:=iP hv;have yW:i<ys.length:=by rw[Xr,<-nl];exact(aG.1 hi).1
   obtain⟨v',h2,h3⟩:=nr i _ (av yW);rw[hi]at h2;obtain rfl:=au h2;exact h3.ZW (pF.1 h1 _ (aK yW))
  split at h;rename_i k T bP;split at h;rename_i he hT hne;obtain rfl:=aP he;obtain rfl:=aP hT;split at h;simp_all;rename_i xs hxs;obtain⟨hkn,hxs⟩:=jh hxs;obtain⟨n,m',VO,hm1,h1,hbd,zs,rfl,hK⟩:=h;generalize NH:a.eval x=vv at Hw;cases Hw with
  |fe _ _ _ n' c b p1 p2 p3 p4=>
   have hxl:=(hs.cE _ _ _ _ p1 p2).2.2 xs hxs;simp only at hxl;obtain rfl:n=n':=gm p4 (VO.symm.trans hxl);obtain rfl:m'=m:=gm p4 (hm1.symm.trans Xr);obtain⟨t1,t2,tt,t3⟩:=hs.fF _ _ _ _ _ p2;by_cases hc:n+m'<=c;have hq:n*j.size+news.length<=c*j.size:=by have :=dO j.size hc;rw[bC]at this;omega
   have hrun:=nS (P:=E.C.P) (w:=w) (ty:=o.type) (b:=b) (off:=0) KO hud hdk hok hl (nf w λ_ _=>rfl) hc (λq NC=>by grind) (λq NC=>by grind) (hone h1);rw[cM]at hrun;have hg:=hs.Qp (news:=news) hxs p1 p2 hq nr oO;have hex:(execOp a.eval o).run E.C.P w=.ok (.value (.slice (some ⟨b,0,none⟩) (n+m') c)) (w.setCells b (n*j.size) news):=by simp[execOp,ho,resolve,invoke,builtin,NH,Qq,hrun]
   refine wp_value hex (hn _ _ _ hK ⟨{G with tail:=λt=>if t=k then some (b,n*j.size+news.length,c*j.size,T)else G.tail t},?_⟩);rw[hd];refine hg.put (some d) (v:=.slice (some ⟨b,0,none⟩) (n+m') c) (x:=.fe k T j.size) (.fe k T j.size (n+m') c b p1 ?_ hc p4);simp only[if_true];rw[nl,bC];obtain⟨olds,ol,or',of'⟩:=BI (P:=E.C.P) hs hxs p1 p2;obtain⟨rest,z,hz,qI,hrun⟩:=iS (P:=E.C.P) (w:=w) (ty:=o.type) (news:=news) (olds:=olds) KO hud hdk hok hl nf of' hc hbd hb0;have hcap:n+m'<=grownCap w (n+m') c T:=grownCap_ge w _ _ _;generalize hcg:grownCap w (n+m') c T=cap at*;have hrl:rest.size=(cap-(n+m'))*j.size:=by rw[qI,size_zeroCells,hz]
   have jH:(olds++news++rest.toList).length=cap*j.size:=by simp only[aq,ol,nl,js,hrl,<-bC];rw[show n+m'+(cap-(n+m'))=cap from oO]
   obtain⟨G',g1,g2,g3⟩:=AB hs.drew k hkn (zs:=xs++ys) (cells:=olds++news++rest.toList) (s:=(n+m')*j.size) (cap:=cap*j.size) (e:=T) (by grind) jH (λi z hz=>by have hk:∀{v:Value}{z:FV},aT G w v z->aT G {w with drawn:=w.drawn+1} v z:=λh=>h.keep (λ_ _ h=>h) (λ_ _ _ _ h=>h) (λ_ _ _ _ h=>h) (λ_ _ h=>h) (λ_ _ h=>h);grind);have hW:w.drew.alloc (.cells (olds.toArray++news.toArray++rest) T)=({w with drawn:=w.drawn+1}:World).alloc (.cells (olds++news++rest.toList).toArray T):=by
    have :olds.toArray++news.toArray++rest=(olds++news++rest.toList).toArray:=by apply iO.1;simp
    rw[this];rfl
   rw[hW]at hrun;refine wp_value (v:=.slice (some ⟨w.heap.size,0,none⟩) (n+m') cap) (w':=({w with drawn:=w.drawn+1}:World).alloc (.cells (olds++news++rest.toList).toArray T)) ?_ (hn _ _ _ hK ⟨G',?_⟩);simp[execOp,ho,resolve,invoke,builtin,NH,Qq]at hrun⊢;simp_all;rw[hd];exact g1.put (some d) (v:=.slice (some ⟨w.heap.size,0,none⟩) (n+m') cap) (x:=.fe k T j.size) (.fe k T j.size (n+m') cap w.heap.size g2 g3 hcap p4)
  simp_all;obtain⟨m',hm0,hm1,h1,hbd,h⟩:=h;rw[lX]at h;obtain⟨hdn,zs,rfl,hK⟩:=h;have hdn:=bt hdn;generalize NH:a.eval x=vv at Hw;cases Hw with
  |full _ ad hr0=>
   obtain rfl:m'=m:=gm q4 (hm1.symm.trans Xr);have of':∀w',(∀b o,w'.cell? ⟨b,o,none⟩=w.cell? ⟨b,o,none⟩)->(Builtin.firstCells j.size 0 (.slice ad 0 0)).run E.C.P w'=.ok ([]:List Value).toArray w':=λw' _=>by cases ad<;>simp[Builtin.firstCells,loadCells,loadCellsFrom]
   obtain⟨rest,z,hz,qI,hrun⟩:=iS (P:=E.C.P) (w:=w) (ty:=o.type) (base:=ad) (n:=0) (c:=0) (news:=news) (olds:=[]) KO hud hdk hok hl nf of' oO (by simp_all) hb0;have hcap:0+m'<=grownCap w (0+m') 0 T2:=grownCap_ge w _ _ _;generalize hcg:grownCap w (0+m') 0 T2=cap at*;have hrl:rest.size=(cap-(0+m'))*j.size:=by rw[qI,size_zeroCells,hz]
   have jH:(news++rest.toList).length=cap*j.size:=by simp only[aq,nl,js,hrl,<-bC];rw[show m'+(cap-(0+m'))=cap from oO]
   generalize hnm:S.off+d=nm at hK hdn;obtain⟨G',g1,g2,g3⟩:=AB hs.drew nm hdn (zs:=ys) (cells:=news++rest.toList) (s:=m'*j.size) (cap:=cap*j.size) (e:=T2) Xr jH (λi z hz=>by have hk:∀{v:Value}{z:FV},aT G w v z->aT G {w with drawn:=w.drawn+1} v z:=λh=>h.keep (λ_ _ h=>h) (λ_ _ _ _ h=>h) (λ_ _ _ _ h=>h) (λ_ _ h=>h) (λ_ _ h=>h);grind);have hW:w.drew.alloc (.cells (([]:List Value).toArray++news.toArray++rest) T2)=({w with drawn:=w.drawn+1}:World).alloc (.cells (news++rest.toList).toArray T2):=by
    have :([]:List Value).toArray++news.toArray++rest=(news++rest.toList).toArray:=by apply iO.1;simp
    rw[this];rfl
   rw[hW]at hrun;refine wp_value (v:=.slice (some ⟨w.heap.size,0,none⟩) (0+m') cap) (w':=({w with drawn:=w.drawn+1}:World).alloc (.cells (news++rest.toList).toArray T2)) ?_ (hn _ _ _ hK ⟨G',?_⟩);simp[execOp,ho,resolve,invoke,builtin,NH,Qq]at hrun⊢;simp_all;rw[hd];exact g1.put (some d) (v:=.slice (some ⟨w.heap.size,0,none⟩) (0+m') cap) (x:=.fe nm T2 j.size) (.fe nm T2 j.size (0+m') cap w.heap.size g2 (by simp_all) hcap q4)
  simp_all
 simp_all;simp_all
theorem BJ {d Z o:Nat}{rL:List (List AV)}{cells:List FV}:∀{l:List (Nat×List FV)},Qv.getObj (Aw d Z rL l) o=some cells->o≠d/\∃cs,Qv.getObj l o=some cs/\cells=FV.CA d Z rL cs:=by
 intro l;induction l with
 |nil=>intro h;cases h
 |cons p l ih=>
  obtain⟨u,i⟩:=p;intro h;simp only[Aw]at h;split at h;rename_i hb;obtain rfl:=aP hb;obtain⟨h1,cs,h2,h3⟩:=ih h;refine⟨h1,cs,?_,h3⟩;simp only[Qv.getObj];have :Nat.beq u o=false:=by cases hb:Nat.beq u o;rfl;simp_all
  simp_all;rename_i hb;simp only[Qv.getObj]at h⊢;grind
theorem lT {α:Type}{e:Nat}:∀{l:List (List α)},(∀zs,zs∈l->zs.length=e)->∀{i j:Nat}{zs:List α}{z:α},l[i]?=some zs->zs[j]?=some z->l.flatten[i*e+j]?=some z
 |[],_,i,j,zs,z,h,_=>by grind
 |x::l,hl,0,j,zs,z,h1,h2=>by grind
 |x::l,hl,i+1,j,zs,z,h1,h2=>by have hx:=hl x (by simp);rw[nM,dY (by grind),hx,show(i+1)*e+j-e=i*e+j by grind];exact lT (λzs hz=>hl zs (by grind)) (by simp_all) h2
theorem aT.KH {G G':aV}{w:World}{v:Value}{x:FV}{d Z:Nat}{rL:List (List AV)}(h:aT G w v x)(hi:∀b o,G.aZ b o->G'.aZ b o)(hl:∀o b,o≠d->G.loc o=some b->G'.loc o=some b)(ht:∀(t:Nat) r,G.tail t=some r->G'.tail t=some r)(hO:∀(T:TypeId)(bP n c b:Nat),G.loc d=some b->G.tail d=some (b,n*bP,c*bP,T)->n<=c->0<bP->bP=Z->aT G' w (.slice (some ⟨b,0,none⟩) n c) (.eH d T bP rL))(hy:∀l k,G.yl l=some k->G'.yl l=some k:=by intro _ _ h;exact h)(hmp:∀o b,o≠d->G.mp o=some b->G'.mp o=some b:=by intro _ _ _ h;exact h)(hit:∀o b,o≠d->G.it o=some b->G'.it o=some b:=by intro _ _ _ h;exact h):aT G' w v (x.KH d Z rL):=by
 have get:∀{cs:List Value}{xs:List FV},(∀(i:Nat)(c:Value)(x:FV),cs[i]?=some c->xs[i]?=some x->aT G' w c (x.KH d Z rL))->∀(i:Nat)(c:Value)(x:FV),cs[i]?=some c->(FV.CA d Z rL xs)[i]?=some x->aT G' w c x:=λ{cs xs} ih i c x h1 h2=>by rw[FV.wW,aR]at h2;grind
 induction h with
 |p v x h=>exact .p v x (h.keep hi (λ_ _ _ _ h=>h) (.refl _ _))
 |agg cs xs hn _ ih=>exact .agg cs _ (by simpa[FV.wW]using hn) (get ih)
 |eV cs xs hn _ ih=>exact .eV cs _ (by simpa[FV.wW]using hn) (get ih)
 |ptr o off b h=>simp only[FV.KH];split;exact .dF _;rename_i hb;exact .ptr o off b (hl o b (bt hb) h)
 |eH t T bP xs a c h1 h2=>simp only[FV.KH];split;exact .p _ _ (h1.keep hi (λ_ _ _ _ h=>h) (.refl _ _));refine .eH t T bP xs a c (h1.keep hi (λ_ _ _ _ h=>h) (.refl _ _)) ?_;grind
 |full xs a h=>exact .full xs a (h.keep hi (λ_ _ _ _ h=>h) (.refl _ _))
 |fn f fs cs first captured hn hn' _ _ ih HN=>exact .fn f fs cs _ _ (by simpa[FV.wW]using hn) (by simpa[FV.wW]using hn') (get ih) (get HN)
 |ni l k h=>simp only[FV.KH];split;exact .dF _;exact .ni l k (hy _ _ h)
 |fe o T bP n c b h1 h2 h3 h4=>simp only[FV.KH];split;rename_i hb;obtain rfl:=aP hb;split;rename_i he;exact hO T bP n c b h1 h2 h3 h4 (aP he);exact .dF _;rename_i hb;exact .fe o T bP n c b (hl o b (bt hb) h1) (ht o _ h2) h3 h4
 |uH o x T bP n c b off h1 h2 h0 h3 h4=>simp only[FV.KH];split;exact .dF _;rename_i hb;exact .uH o x T bP n c b off (hl o b (bt hb) h1) (ht o _ h2) h0 h3 h4
 |ij o base off b h=>simp only[FV.KH];split;exact .dF _;rename_i hb;exact .ij o base off b (hl o b (bt hb) h)
 |fI o b h=>simp only[FV.KH];split;exact .dF _;rename_i hb;exact .fI o b (hmp o b (bt hb) h)
 |Bh o b h=>simp only[FV.KH];split;exact .dF _;rename_i hb;exact .Bh o b (hit o b (bt hb) h)
 |dF v=>exact .dF v
theorem lP.PO {G G':aV}{S:ai}{w:World}{d Z:Nat}{rL:List (List AV)}(hi:∀b i es k,w.heap[b]?=some (.map es k)->(∃o,G'.mp o=some b)->G'.aZ b i->G.aZ b i)(hi':∀b,G.aZ b 0->G'.aZ b 0)(hmp:G'.mp=G.mp)(hit:G'.it=G.it)(hl:∀o b,G'.loc o=some b->G.loc o=some b)(ht:∀q r,G.tail (.inr q)=some r->G'.tail (.inr q)=some r:=by first|exactλ_ _ h=>h|exactλ_ _ h=>(aa (λe=>nomatch e)).trans h):lP (FV.KH d Z rL) G G' S (S.PO d Z rL) w:=by refine⟨λ_=>rfl,λo l' h=>?_,λq x h=>?_,λ_ _ h=>hmp▸h,λ_ _ h=>hit▸h,hi,hi',λo b h=>.inl (hl o b h),ht⟩;obtain⟨l,h1,h2⟩:=xq h;obtain⟨h3,h4⟩:=qb h1;simp_all;obtain⟨h1,h2⟩:=qb h;simp_all
theorem bp.PO (hs:bp E G S a w){d Z:Nat}{rL:List (List AV)}(hf:ail S d Z rL):∃G',bp E G' (S.PO d Z rL) a w:=by
 obtain⟨⟨cells,hc0,hy⟩,Bn⟩:=hf;obtain⟨hdn,hc⟩:=jh hc0;clear hc0;generalize hys:rL.flatten=ys at hy;obtain⟨B,hB,hcell⟩:=hs.aN d cells hc;obtain⟨NI,Ge,hl3⟩:=hs.iz d B hB;obtain⟨hlen,vP⟩:=FV.jg hy;let G':aV:={G with aZ:=λb o=>G.aZ b o\/(b=B/\o<ys.length),loc:=λo=>if o=d then none else G.loc o};have hone:∀y,y∈ys->y.one=true:=λy hy=>by rw[<-hys]at hy;obtain⟨zs,h1,h2⟩:=xA.1 hy;grind
 have vU:∀o b,G'.loc o=some b->o≠d/\G.loc o=some b:=λo b h=>by grind
 have oz:∀(j:Nat)(y:AV),ys[j]?=some y->∃c,w.cell? ⟨B,j,none⟩=some c/\dh G'.aZ w c y:=λj y hj=>by obtain⟨x,hx,hxy⟩:=vP j y hj;obtain⟨c,h2,h3⟩:=hcell j x hx;exact⟨c,h2,(h3.fh hxy).keep (λb o h=>.inl h) (λ_ _ _ _ h=>h) (.refl _ _)⟩
 have aan:∀b i es n,b=B->i<ys.length->w.heap[b]?=some (.map es n)->False:=λb i es n e hi hb=>by subst e;obtain⟨c,h2,-⟩:=oz i _ (av hi);rw[CF hb]at h2;grind
 have up:∀v x,aT G w v x->aT G' w v (x.KH d Z rL):=λv x hv=>by
  refine hv.KH (λb o h=>.inl h) (λo b hne h=>by grind) (λ_ _ h=>h) (λT bP n c b h1 h2 h3 h4 h5=>?_);obtain rfl:b=B:=by simp_all
  subst h5;have h6:=(hs.cE d d b _ h1 h2).2.2 cells hc;simp only at h6;have h7:rL.flatten.length=rL.length*bP:=by
   have :∀l:List (List AV),(∀zs,zs∈l->zs.length=bP)->l.flatten.length=l.length*bP:=by
    intro l;induction l with
    |nil=>simp_all
    |cons z l ih=>grind
   exact this rL λzs hz=>(Bn zs hz).1
  have h8:rL.length=n:=gm h4 (by simp_all);subst h8;refine .eH d T bP rL (some ⟨b,0,none⟩) c (zx h3 (λzs hz=>(Bn zs hz).1) λi zs j z hi hj=>?_) (.inr ⟨b,0,rfl,λzs hz=>(Bn zs hz).1,by grind⟩);rw[cM];have h9:ys[i*bP+j]?=some z:=by rw[<-hys];exact lT (λzs hz=>(Bn zs hz).1) hi hj
  grind
 refine⟨G',hs.kept,hs.size,hs.ext'.move (S':=S.PO d Z rL) (FV.KH d Z rL) rfl rfl rfl up (.refl _) (.PO (λb i es n hb _ h=>h.elim id λh=>(aan b i es n h.1 h.2 hb).elim) (λ_ h=>.inl h) rfl rfl (λo b h=>(vU o b h).2)),?_,?_,?_,λi hi=>up _ _ (hs.tmps i hi),λo cs ho=>?_,λo b ho=>?_,λo o' b h h'=>hs.fk o o' b (vU _ _ h).2 (vU _ _ h').2,λo t b r h h'=>lF.mono (hs.cE o t b r (vU _ _ h).2 h') (λbs q=>⟨bs,(kq q).2⟩) (λcs q=>?_),λt b s e T h=>?_,hs.ek⟩;refine hs.jl.keep rfl rfl (λo bs q=>?_) (λo _ _ q=>?_) (λ_ _ e=>e) (ay _) (λ_ _ _ _ _ _=>rfl) (λ_ _ _=>rfl) (λo r i e hi=>?_) (λ_ _ o' _ e=>(vU o' _ e).2) (λ_ _ t q _ e=>⟨t,q,e⟩);refine⟨(kq q).2,?_,rfl⟩;have q:=(kq q).2;have hne:o≠d:=λe=>by have :=(hs.jl.at_ o bs q).1;simp_all
 grind;cases h':Qv.getObj (Aw d Z rL S.aN) o with
 |none=>exact h'
 |some cs=>obtain⟨-,cs',h2,-⟩:=BJ h';simp_all
 rcases hi with hi|⟨rfl,-⟩;omega;exact absurd hB ((hs.jl.row o _ e).2.2.2.1 d);rintro b o (h|⟨rfl,-⟩);exact hs.oy b o h;exact .inr (E.PU Ge hdn);rintro b o (h|⟨rfl,-⟩);exact hs.fo b o h;omega;obtain⟨hne,cs0,h2,rfl⟩:=BJ ho;obtain⟨b,h3,h4⟩:=hs.aN o cs0 h2;refine⟨b,by grind,λi x hx=>?_⟩;rw[FV.wW,aR]at hx;grind;obtain⟨hne,ho'⟩:=vU o b ho;obtain⟨k1,k2,k3⟩:=hs.iz o b ho';refine⟨k1,k2,λi=>⟨?_,(k3 i).2⟩⟩;rintro(h|⟨e,-⟩);simp_all;exact hne (hs.fk o d b ho' (by simp_all));obtain⟨-,cs0,h2,rfl⟩:=BJ q;exact⟨cs0,h2,by rw[FV.wW,aj]⟩;obtain⟨k1,k2,kt,k3⟩:=hs.fF t b s e T h;refine⟨k1,k2,kt,λi hi hi'=>?_⟩;obtain⟨k4,k5,k6⟩:=k3 i hi hi';refine⟨k4,k5,?_⟩;rintro(h7|⟨rfl,hlt⟩);simp_all;have :=(hs.cE d t b _ hB h).2.2 cells hc;omega
theorem LF {i d:Nat}(h:i≠d):Nat.beq i d=false:=by cases hb:Nat.beq i d;rfl;simp_all
end
end Qv
