/- Part 2 of the proof: its lemmas. No condition. -/
import Derived.Test.YtiboombocnfngaaGreatDoorY1
import Derived.RangeFuncNested
import Derived.RangeFuncCalls
import Derived.RangeFuncLeaves
import Derived.RangeFuncBound
import Derived.TacticsIn
import Derived.OrdersIn
import Derived.ChangeKeysEq
import Derived.Laws.StructEq
import Derived.MapKept
import Derived.Laws.IdiomCopy
import Derived.Laws.Entries
import Derived.Laws.Small
import Derived.Laws.BytesString
import Derived.Laws.MathBits
import Derived.Maps.RangeRun
set_option maxRecDepth 10000
set_option maxHeartbeats 80000000
set_option linter.all false
namespace Qv
open Go Go.RowKit
structure Kept (own:List Nat)(qU:List (Nat×Nat))(w w':World):Prop where
 os:w'.os=w.os
 tape:w'.tape=w.tape
 output:w'.output=w.output
 size:w.heap.size<=w'.heap.size
 block:∀k,k<w.heap.size->k∉own->w'.heap[k]?=w.heap[k]?
 shape:∀k cs T fr,(∃o,(o,k)∈qU)->w.heap[k]?=some (.cells cs T fr)->∃cs',w'.heap[k]?=some (.cells cs' T fr)/\cs'.size=cs.size
structure Env where
 C:Ctx
 w0:World
 Ec:Nat->Nat->Prop
 hJ:C.J w0
 hn:C.mD<=w0.heap.size
 lX:Option Nat
 bD:List (Array Value)
 loops:List (Nat×Loop)
 fixed:List Nat
 own:List Nat:=[]
 hown:∀b,b∈own->C.mD<=b/\b<w0.heap.size/\∀o,¬Ec b o:=by intro _ h;cases h
 qU:List (Nat×Nat):=[]
 rows:List Nat:=[]
 Fi:∀p,p∈qU->p.2∈own/\p.2∉rows:=by intro _ h;cases h
 hrows:∀r,r∈rows->r∈own:=by intro _ h;cases h
def Env.mine (E:Env)(o b:Nat):Prop:=(E.w0.heap.size<=b/\iy o=false)\/(iy o=true/\(o,b)∈E.qU)
theorem Env.BU {E:Env}{o b:Nat}(h:E.mine o b):E.w0.heap.size<=b\/b∈E.own:=h.imp (λh=>h.1) λh=>(E.Fi _ h.2).1
theorem iW {l:List (Nat×List FV)}{d:Nat}{cs:List FV}(h:Ad l d=some cs):iy d=false/\Qv.getObj l d=some cs:=by unfold Ad at h;grind
theorem Env.Hu {E:Env}{o b:Nat}(h:E.mine o b)(ho:iy o=false):E.w0.heap.size<=b:=by rcases h with h|h;exact h.1;grind
theorem Env.Mv {E:Env}{o b k:Nat}(h:E.mine o b)(hk:k<E.w0.heap.size)(hk':k∉E.own):k≠b:=by rintro rfl;rcases E.BU h with h|h;omega;grind
theorem Env.Ox {E:Env}{b c:Nat}(h:E.mine 999999 b)(ho:E.qU=[(999999,c)]):b=c:=by rcases h with h|h;exact absurd h.2 dD;grind
def zq.of (r:Loop):zq->Loop|.ready=>{r with state:=.ready,pending:=none}|.busy=>{r with state:=.busy,pending:=none}|.Mi=>{r with state:=.done,pending:=some .ret}|.GZ id=>{r with state:=.done,pending:=some (.exit id)}
abbrev mark (r:Nat):Deferred:={target:=.collected r,args:=#[]}
def acd (bh:Nat->Nat->Prop)(w:World)(es:List MapEntry)(l:List (AV×AV)):Prop:=es.length=l.length/\∀(i:Nat)(e:MapEntry)(p:AV×AV),es[i]?=some e->l[i]?=some p->dh bh w e.key p.1/\dh bh w e.val p.2
def aha (es:List MapEntry)(seen:Array Nat):List MapEntry:=es.filter λe=>!seen.contains e.born
def ace (bh:Nat->Nat->Prop)(w:World)(r:Nat)(x:Option (AV×AV)×List (AV×AV)):Prop:=(x=(none,[])/\w.heap[r]?=some (.mapIter none 0 #[] 0))\/∃(m gm:Nat) (es:List MapEntry) (seen:Array Nat),w.heap[r]?=some (.mapIter (some m) gm seen gm)/\w.heap[m]?=some (.map es.toArray gm)/\bh m 0/\oQ es gm/\acd bh w (aha es seen) x.2/\∀p,x.1=some p->∃(e:MapEntry) (ahb:Array Nat),e∈es/\seen=ahb.push e.born/\dh bh w e.key p.1/\dh bh w e.val p.2
def acf:Nm->Nat×Nat->Prop|.inl _,_=>True|.inr _,fr=>fr=(0,0)
def Ee (G:aZ)(T:TypeId)(z o:Nat)(e:MapEntry):Prop:=∃(a:Option Addr) (n c:Nat),e.val=.slice a n c/\((n=0/\c=0)\/∃b off,(a=some ⟨b,off,none⟩/\off=0)/\G.tail (.inr (o,e.born))=some (b,off+n*z,off+c*z,T))
structure Yc (E:Env)(G:aZ)(S:ag)(w:World):Prop where
 at_:∀o l,getM S.maps o=some l->∃(b gm:Nat) (es:List MapEntry),G.mp o=some b/\w.heap[b]?=some (.map es.toArray gm)/\oQ es gm/\es.length=l.length/\∀(i:Nat)(e:MapEntry)(p:AV×FV),es[i]?=some e->l[i]?=some p->dh G.bh w e.key p.1/\aO G w e.val p.2
 loc:∀o b,G.mp o=some b->E.mine o b/\(∀i,¬G.bh b i)/\∃es gm,w.heap[b]?=some (.map es gm)
 inj:∀o o' b,G.mp o=some b->G.mp o'=some b->o=o'
 jg:∀q x,getM S.jg q=some x->∃r,G.it q=some r/\ace G.bh w r x
 Ao:∀q r,G.it q=some r->E.w0.heap.size<=r/\∃m s seen c,w.heap[r]?=some (.mapIter m s seen c)
 Ap:∀q q' r,G.it q=some r->G.it q'=some r->q=q'
 apart:∀o o' b,G.mp o=some b->G.loc o'≠some b
 room:∀(o:Nat)(T:TypeId)(z:Nat)(k:Option AV)(l:List (AV×FV))(b gm:Nat)(es:List MapEntry),getM S.maps o=some l->getM E.C.ex.Mh o=some (T,z,k)->G.mp o=some b->w.heap[b]?=some (.map es.toArray gm)->∀(i:Nat)(e:MapEntry)(p:AV×FV),es[i]?=some e->l[i]?=some p->k≠some p.1->Ee G T z o e
structure Ext (E:Env)(G:aZ)(S:ag)(a:Act)(w:World):Prop where
 mps:Yc E G S w
 kX:S.bD.length=E.bD.length
 bD:∀(i:Nat)(vals:Array Value)(fr:Fr),E.bD[i]?=some vals->S.bD[i]?=some fr->vals.size=fr.n/\∀j,j<fr.n->aO G w (vals.getD j undef) (fr.tmps j)
 jX:S.cm.length=E.loops.length
 loops:∀(i k:Nat)(r:Loop)(st:zq),E.loops[i]?=some (k,r)->S.cm[i]?=some st->E.w0.heap.size<=k/\w.heap[k]?=some (.loop (st.of r))
 kZ:∀(i j k:Nat)(r r':Loop),E.loops[i]?=some (k,r)->E.loops[j]?=some (k,r')->i=j
 yl:∀(i k:Nat)(r:Loop),E.loops[i]?=some (k,r)->∀k',G.yl (1000000+i)=some k'->k'=k
 lX:∀l,E.lX=some l->∃(i:Nat) (r:Loop),E.loops[i]?=some (l,r)
 marks:∃ms:List Nat,a.defers=ms.map mark/\(ms++E.fixed).Nodup/\∀r,r∈ms++E.fixed->E.w0.heap.size<=r/\w.heap[r]?=some (.deferred (some []))
 Af:oR G.bh w
def fU (w w':World):Prop:=∀(k:Nat)(o:Obj),w.heap[k]?=some o->o.isCells=false->w'.heap[k]?=some o
theorem fU.refl (w:World):fU w w:=λ_ _ h _=>h
theorem fU.trans {A B C:World}(h:fU A B)(h':fU B C):fU A C:=λk o a b=>h' k o (h k o a b) b
theorem fU.BV {w w':World}(h:Below w.heap.size w w'):fU w w':=λk o hk _=>by rw[h.block k (bq.1 hk).1];omega
theorem BW {w:World}{b i:Nat}{es:Array MapEntry}{n:Nat}(h:w.heap[b]?=some (.map es n)):w.cell? ⟨b,i,none⟩=none:=by simp[World.cell?,h]
theorem fU.oV {w w':World}(h:fU w w')(bh:Nat->Nat->Prop):vr bh w w':=λb es k _ hb=>h b _ hb rfl
theorem acd.keep {bh tL:Nat->Nat->Prop}{w w':World}{es:List MapEntry}{l:List (AV×AV)}(h:acd bh w es l)(hk:∀v x,dh bh w v x->dh tL w' v x):acd tL w' es l:=⟨h.1,λi e p h1 h2=>⟨hk _ _ (h.2 i e p h1 h2).1,hk _ _ (h.2 i e p h1 h2).2⟩⟩
theorem ace.keep {bh tL:Nat->Nat->Prop}{w w':World}{r:Nat}{x:Option (AV×AV)×List (AV×AV)}(h:ace bh w r x)(hk:∀v x,dh bh w v x->dh tL w' v x)(hi:∀b,bh b 0->tL b 0)(hr:∀m s seen c,w.heap[r]?=some (.mapIter m s seen c)->w'.heap[r]?=some (.mapIter m s seen c))(hm:vr bh w w'):ace tL w' r x:=by rcases h with⟨h1,h2⟩|⟨m,gm,es,seen,h1,h2,h3,h4,h5,h6⟩;exact .inl ⟨h1,hr _ _ _ _ h2⟩;refine .inr ⟨m,gm,es,seen,hr _ _ _ _ h1,hm _ _ _ h3 h2,hi _ h3,h4,h5.keep hk,λp hp=>?_⟩;grind
theorem Mw (l:List (AV×FV)):uF (λx=>x) l=l:=by
 induction l with
 |nil=>rfl
 |cons p l ih=>obtain⟨k,x⟩:=p;simp[uF,ih]
theorem Yc.env {E E':Env}{G:aZ}{S S':ag}{w:World}(h:Yc E G S w)(hE:E'.w0=E.w0)(hm:S'.maps=S.maps)(hi:S'.jg=S.jg)(hC:E'.C=E.C:=by rfl)(hL:E'.qU=E.qU:=by rfl):Yc E' G S' w:=⟨λo l q=>h.at_ o l (hm▸q),λo b q=>by unfold Env.mine;rw[hE,hL];exact h.loc o b q,h.inj,λq x p=>h.jg q x (hi▸p),λq r p=>hE▸h.Ao q r p,h.Ap,h.apart,λo T z k l b gm es q1 q2 q3 q4 i e p q5 q6 q7=>h.room o T z k l b gm es (hm▸q1) (hC▸q2) q3 q4 i e p q5 q6 q7⟩
theorem Mx {es es':List MapEntry}{c c':Nat}{o:Option Obj}(h:o=some (.map es.toArray c))(h':o=some (.map es'.toArray c')):es'=es:=by simp_all
structure lN (f:FV->FV)(G G':aZ)(S S':ag)(w:World):Prop where
 p:∀x,f (.p x)=.p x
 maps:∀o l',getM S'.maps o=some l'->∃l,getM S.maps o=some l/\l'=uF f l/\∀b,G.mp o=some b->G'.mp o=some b
 jg:∀q x,getM S'.jg q=some x->getM S.jg q=some x/\∀r,G.it q=some r->G'.it q=some r
 mp:∀o b,G'.mp o=some b->G.mp o=some b
 it:∀o b,G'.it o=some b->G.it o=some b
 aeo:∀b i es k,w.heap[b]?=some (.map es k)->(∃o,G'.mp o=some b)->G'.bh b i->G.bh b i
 aep:∀b,G.bh b 0->G'.bh b 0
 loc:∀o b,G'.loc o=some b->G.loc o=some b\/∀es k,w.heap[b]?≠some (.map es k)
 tail:∀q r,G.tail (.inr q)=some r->G'.tail (.inr q)=some r
theorem lN.same {G G':aZ}{S S':ag}{w:World}(h1:S'.maps=S.maps)(h2:S'.jg=S.jg)(h3:G'.mp=G.mp)(h4:G'.it=G.it)(h5:G'.bh=G.bh)(h6:G'.loc=G.loc)(ht:∀q r,G.tail (.inr q)=some r->G'.tail (.inr q)=some r:=by first|exactλ_ _ h=>h|exactλ_ _ h=>(aa (λe=>nomatch e)).trans h):lN (λx=>x) G G' S S' w:=⟨λ_=>rfl,λo l' h=>⟨l',h1▸h,(Mw l').symm,λb hb=>h3▸hb⟩,λq x h=>⟨h2▸h,λr hr=>h4▸hr⟩,λo b h=>h3▸h,λo b h=>h4▸h,λ_ _ _ _ _ _ h=>h5▸h,λ_ h=>h5▸h,λ_ _ h=>.inl (h6▸h),ht⟩
theorem lN.more {G G':aZ}{S S':ag}{w:World}(h1:S'.maps=S.maps)(h2:S'.jg=S.jg)(h3:G'.mp=G.mp)(h4:G'.it=G.it)(h5:∀b i,G'.bh b i->G.bh b i\/w.heap.size<=b)(h6:∀b,G.bh b 0->G'.bh b 0)(h7:∀o b,G'.loc o=some b->G.loc o=some b\/∀es k,w.heap[b]?≠some (.map es k))(ht:∀q r,G.tail (.inr q)=some r->G'.tail (.inr q)=some r:=by first|exactλ_ _ h=>h|exactλ_ _ h=>(aa (λe=>nomatch e)).trans h):lN (λx=>x) G G' S S' w:=⟨λ_=>rfl,λo l' h=>⟨l',h1▸h,(Mw l').symm,λb hb=>h3▸hb⟩,λq x h=>⟨h2▸h,λr hr=>h4▸hr⟩,λo b h=>h3▸h,λo b h=>h4▸h,λb i _ _ hb _ h=>(h5 b i h).elim id λh=>by simp_all,h6,h7,ht⟩
theorem Yc.move {E:Env}{G G':aZ}{S S':ag}{w w':World}(h:Yc E G S w)(f:FV->FV)(hk:∀v x,aO G w v x->aO G' w' v (f x))(hw:fU w w')(hm:lN f G G' S S' w):Yc E G' S' w':=by
 have hp:∀v x,dh G.bh w v x->dh G'.bh w' v x:=λv x hv=>by
  have h1:=hk v (.p x) (.p v x hv);rw[hm.p]at h1;cases h1 with
  |p _ _ h2=>omega
 refine⟨λo l' hl=>?_,λo b hb=>?_,λo o' b h1 h2=>h.inj o o' b (hm.mp _ _ h1) (hm.mp _ _ h2),λq x hx=>?_,λq r hr=>?_,λq q' r h1 h2=>h.Ap q q' r (hm.it _ _ h1) (hm.it _ _ h2),λo o' b h1 h2=>?_,λo T z k l' b' AU es' q1 q2 q3 q4 i e p q5 q6 q7=>?_⟩;obtain⟨l,h1,rfl,h2⟩:=hm.maps o l' hl;obtain⟨b,gm,es,h3,h4,h5,h6,h7⟩:=h.at_ o l h1;refine⟨b,gm,es,h2 b h3,hw _ _ h4 rfl,h5,by rw[vz,aj];omega,λi e p he hpp=>?_⟩;rw[vz,aJ]at hpp;grind;obtain⟨h1,h2,es,gm,h3⟩:=h.loc o b (hm.mp _ _ hb);exact⟨h1,λi hi=>h2 i (hm.aeo b i es gm h3 ⟨o,hb⟩ hi),es,gm,hw _ _ h3 rfl⟩;obtain⟨h1,h2⟩:=hm.jg q x hx;obtain⟨r,h3,h4⟩:=h.jg q x h1;exact⟨r,h2 r h3,h4.keep hp hm.aep (λm s seen c h=>hw _ _ h rfl) (hw.oV _)⟩;obtain⟨h1,m,s,seen,c,h2⟩:=h.Ao q r (hm.it _ _ hr);exact⟨h1,m,s,seen,c,hw _ _ h2 rfl⟩;rcases hm.loc o' b h2 with h3|h3;exact h.apart o o' b (hm.mp _ _ h1) h3;obtain⟨-,-,es,k,h4⟩:=h.loc o b (hm.mp _ _ h1);simp_all;obtain⟨l,h1,rfl,h2⟩:=hm.maps o l' q1;obtain⟨b,gm,es,h3,h4,h5,h6,h7⟩:=h.at_ o l h1;obtain rfl:b=b':=by simp_all
 obtain rfl:=Mx (hw _ _ h4 rfl) q4;rw[vz,aJ]at q6;cases hq:l[i]?with
 |none=>simp_all
 |some q=>simp only[hq,ek,bF]at q6;subst q6;obtain⟨ad,n,c,g1,g2⟩:=h.room o T z k l b gm es' h1 q2 h3 h4 i e q q5 hq q7;exact⟨ad,n,c,g1,g2.imp id λ⟨b2,off,g3,g4⟩=>⟨b2,off,g3,hm.tail _ _ g4⟩⟩
theorem oR.of {G G':aZ}{w w':World}(h:oR G.bh w)(hk:∀v x,aO G w v x->aO G' w' v x):oR G'.bh w':=λg xs hg=>by
 have key:∀v x,dh G.bh w v x->dh G'.bh w' v x:=λv x hv=>by
  have h1:=hk v (.p x) (.p v x hv);cases h1 with
  |p _ _ h2=>omega
 exact key _ _ (h g xs hg)
theorem Ext.move {E:Env}{G G':aZ}{S S':ag}{a a':Act}{w w':World}(h:Ext E G S a w)(f:FV->FV)(hd:a'.defers=a.defers)(hp:S'.cm=S.cm)(hs:S'.bD=xH f S.bD)(hk:∀v x,aO G w v x->aO G' w' v (f x))(hw:fU w w')(Hv:lN f G G' S S' w)(hy:∀l k,G'.yl l=some k->G.yl l=some k:=by intro _ _ h;exact h):Ext E G' S' a' w':=by
 refine⟨h.mps.move f hk hw Hv,by rw[hs,He,aj];exact h.kX,λi vals fr h1 h2=>?_,by rw[hp];exact h.jX,λi k r st h1 h2=>?_,h.kZ,λi k r h1 k' h2=>h.yl i k r h1 k' (hy _ _ h2),h.lX,?_,λg xs hg=>?_⟩;rw[hs,He,aJ]at h2;cases hx:S.bD[i]?with
 |none=>simp_all
 |some fr0=>simp[hx]at h2;subst h2;obtain⟨h3,h4⟩:=h.bD i vals fr0 h1 hx;exact⟨h3,λj hj=>hk _ _ (h4 j hj)⟩
 obtain⟨h3,h4⟩:=h.loops i k r st h1 (hp▸h2);exact⟨h3,hw _ _ h4 rfl⟩;obtain⟨ms,h1,h2,h3⟩:=h.marks;exact⟨ms,hd.trans h1,h2,λr hr=>⟨(h3 r hr).1,hw _ _ (h3 r hr).2 rfl⟩⟩;have key:∀v x,dh G.bh w v x->dh G'.bh w' v x:=λv x hv=>by
  have h1:=hk v (.p x) (.p v x hv);rw[Hv.p]at h1;cases h1 with
  |p _ _ h2=>omega
 exact key _ _ (h.Af g xs hg)
theorem Yy (rs:List Fr):xH (λx=>x) rs=rs:=by
 induction rs with
 |nil=>rfl
 |cons r rs ih=>simp[xH,ih,Fr.map]
theorem Ext.keep {E:Env}{G G':aZ}{S S':ag}{a a':Act}{w w':World}(h:Ext E G S a w)(hd:a'.defers=a.defers)(hp:S'.cm=S.cm)(hs:S'.bD=S.bD)(hk:∀v x,aO G w v x->aO G' w' v x)(hw:fU w w')(hy:∀l k,G'.yl l=some k->G.yl l=some k:=by intro _ _ h;exact h)(Hv:lN (λx=>x) G G' S S' w:=by exact lN.same rfl rfl rfl rfl rfl rfl):Ext E G' S' a' w':=h.move (λx=>x) hd hp (by rw[Yy];omega) hk hw Hv hy
structure Bld (E:Env)(G:aZ)(S:ag)(w:World):Prop where
 at_:∀o bs,lI S.cz o=some bs->getObj S.aD o=none/\∃b,G.loc o=some b/\xG E.C w b (G.row o) bs
 row:∀o r,G.row o=some r->(E.w0.heap.size<=r\/(o=999999/\r∈E.rows))/\r<w.heap.size/\(∀i,¬G.bh r i)/\(∀o',G.loc o'≠some r)/\(∀t q,G.tail t≠some (r,q))/\∀o',G.row o'=some r->o'=o
 cM:∀o r,G.row o=some r->∃cs T fr,w.heap[r]?=some (.cells cs T fr)
theorem xG.keep {C:Ctx}{w w':World}{b:Nat}{row:Option Nat}{bs:List UInt8}(h:xG C w b row bs)(hb:w'.heap[b]?=w.heap[b]?)(hr:∀r,row=some r->w'.heap[r]?=w.heap[r]?):xG C w' b row bs:=by obtain⟨p,v,h1,h2,h3⟩:=h;refine⟨p,v,h1,hb.trans h2,?_⟩;grind
theorem Bld.keep {E E':Env}{G G':aZ}{S S':ag}{w w':World}(h:Bld E G S w)(hC:E'.C=E.C)(hw0:E'.w0=E.w0)(hS:∀o bs,lI S'.cz o=some bs->lI S.cz o=some bs/\G'.loc o=G.loc o/\G'.row o=G.row o)(hO:∀o bs,lI S'.cz o=some bs->getObj S.aD o=none->getObj S'.aD o=none)(hrow:∀o r,G'.row o=some r->G.row o=some r)(hsz:w.heap.size<=w'.heap.size)(hb:∀o bs b,lI S.cz o=some bs->getObj S.aD o=none->G.loc o=some b->w'.heap[b]?=w.heap[b]?)(hr:∀o r,G.row o=some r->w'.heap[r]?=w.heap[r]?)(BX:∀o r i,G.row o=some r->G'.bh r i->G.bh r i)(fJ:∀o r o',G.row o=some r->G'.loc o'=some r->G.loc o'=some r)(ahc:∀o r t q,G.row o=some r->G'.tail t=some (r,q)->∃t' q',G.tail t'=some (r,q'))(hown:E'.rows=E.rows:=by rfl):Bld E' G' S' w':=by refine⟨λo bs hq=>?_,λo r hq=>?_,λo r hq=>by rw[hr o r (hrow o r hq)];exact h.cM o r (hrow o r hq)⟩;obtain⟨h1,h2,h3⟩:=hS o bs hq;obtain⟨h4,b,h5,h6⟩:=h.at_ o bs h1;refine⟨hO o bs hq h4,b,h2.trans h5,?_⟩;rw[h3,hC];exact h6.keep (hb o bs b h1 h4 h5) (λr e=>hr o r e);have h0:=hrow o r hq;obtain⟨h1,h2,h3,h4,h5,h6⟩:=h.row o r h0;grind
theorem Bld.same {E E':Env}{G:aZ}{S S':ag}{w w':World}(h:Bld E G S w)(hC:E'.C=E.C)(hw0:E'.w0=E.w0)(hS:S'.cz=S.cz)(hO:S'.aD=S.aD)(hsz:w.heap.size<=w'.heap.size)(hb:∀o bs b,lI S.cz o=some bs->getObj S.aD o=none->G.loc o=some b->w'.heap[b]?=w.heap[b]?)(hr:∀o r,G.row o=some r->w'.heap[r]?=w.heap[r]?)(hown:E'.rows=E.rows:=by rfl):Bld E' G S' w':=h.keep hC hw0 (λo bs q=>⟨hS▸q,rfl,rfl⟩) (λo _ _ q=>hO▸q) (λ_ _ e=>e) hsz hb hr (λ_ _ _ _ e=>e) (λ_ _ _ _ e=>e) (λ_ _ t q _ e=>⟨t,q,e⟩) hown
structure bp (E:Env)(G:aZ)(S:ag)(a:Act)(w:World):Prop where
 kept:Kept E.own E.qU E.w0 w
 size:a.tmps.size=S.n
 ext':Ext E G S a w
 iY:Bld E G S w
 mX:∀b o,G.bh b o->E.Ec b o\/E.w0.heap.size<=b
 fo:∀b o,G.bh b o->b<w.heap.size
 tmps:∀i,i<S.n->aO G w (a.tmps.getD i undef) (S.tmps i)
 aD:∀o cells,getObj S.aD o=some cells->∃b,G.loc o=some b/\∀(i:Nat)(x:FV),cells[i]?=some x->∃c,w.cell? ⟨b,i,none⟩=some c/\aO G w c x
 gD:∀o b,G.loc o=some b->b<w.heap.size/\E.mine o b/\∀i,¬G.bh b i/\w.frozen? ⟨b,i,none⟩=false
 eU:∀o o' b,G.loc o=some b->G.loc o'=some b->o=o'
 ck:∀o t b r,G.loc o=some b->G.tail t=some (b,r)->t=o/\lI S.cz o=none/\∀cells,getObj S.aD o=some cells->cells.length=r.1
 fS:∀t b s e T,G.tail t=some (b,s,e,T)->b<w.heap.size/\E.w0.heap.size<=b/\(∃cs fr,w.heap[b]?=some (.cells cs T fr)/\acf t fr)/\∀i,s<=i->i<e->(∃c,w.cell? ⟨b,i,none⟩=some c)/\w.frozen? ⟨b,i,none⟩=false/\¬G.bh b i
 dR:∀t t' b r r',G.tail t=some (b,r)->G.tail t'=some (b,r')->t=t'
def mY (E:Env)(S:ag)(a:Act)(w:World):Prop:=∃G,bp E G S a w
theorem mY.weaken {E:Env}{S S':ag}{a:Act}{w:World}(h:mY E S a w)(hw:cq S S'):mY E S' a w:=by
 obtain⟨G,h⟩:=h;refine⟨G,h.kept,h.size.trans hw.n.symm,⟨⟨λo l' hl=>?_,h.ext'.mps.loc,h.ext'.mps.inj,λq x hx=>h.ext'.mps.jg q x (hw.jg q x hx),h.ext'.mps.Ao,h.ext'.mps.Ap,h.ext'.mps.apart,λo T z k l' b gm es q1 q2 q3 q4 i e p q5 q6 q7=>?_⟩,hw.bD.1.trans h.ext'.kX,λi vals fr h1 h2=>?_,by rw[hw.cm];exact h.ext'.jX,λi k r st h1 h2=>h.ext'.loops i k r st h1 (hw.cm▸h2),h.ext'.kZ,h.ext'.yl,h.ext'.lX,h.ext'.marks,h.ext'.Af⟩,⟨λo bs q=>⟨(hw.cz o bs q).2 (h.iY.at_ o bs (hw.cz o bs q).1).1,(h.iY.at_ o bs (hw.cz o bs q).1).2⟩,h.iY.row,h.iY.cM⟩,h.mX,h.fo,λi hi=>hw.tmps i _ _ _ (h.tmps i (hw.n▸hi)),λo ys ho=>?_,h.gD,h.eU,λo t b r h1 h2=>?_,h.fS,h.dR⟩;obtain⟨l,h1,h2,h3⟩:=hw.maps o l' hl;obtain⟨b,gm,es,h4,h5,h6,h7,h8⟩:=h.ext'.mps.at_ o l h1;refine⟨b,gm,es,h4,h5,h6,h7.trans h2,λi e p he hp=>?_⟩;have BL:i<l.length:=by rw[h2];exact(aG.1 hp).1
 obtain⟨h9,h10⟩:=h3 i _ p (an BL) hp;obtain⟨h11,h12⟩:=h8 i e _ he (an BL);exact⟨h9▸h11,h10 _ _ _ h12⟩;obtain⟨l,h1,h2,h3⟩:=hw.maps o l' q1;have BL:i<l.length:=by rw[h2];exact(aG.1 q6).1
 obtain⟨h9,-⟩:=h3 i _ p (an BL) q6;exact h.ext'.mps.room o T z k l b gm es h1 q2 q3 q4 i e _ q5 (an BL) (h9▸q7);have hl:i<S.bD.length:=by rw[<-hw.bD.1];exact(aG.1 h2).1
 obtain⟨h3,h4,h5⟩:=hw.bD.2 i _ fr (an hl) h2;obtain⟨h6,h7⟩:=h.ext'.bD i vals _ h1 (an hl);exact⟨h6.trans h3.symm,λj hj=>h5 j _ _ _ (h7 j (h3▸hj))⟩;obtain⟨xs,h1,h2,h3⟩:=hw.aD o ys ho;obtain⟨b,h4,h5⟩:=h.aD o xs h1;refine⟨b,h4,λi y hy=>?_⟩;have hl:i<xs.length:=by rw[h2];exact(aG.1 hy).1
 obtain⟨c,h6,h7⟩:=h5 i _ (an hl);exact⟨c,h6,h3 i _ _ (an hl) hy _ _ _ h7⟩;obtain⟨h3,h4,h5⟩:=h.ck o t b r h1 h2;refine⟨h3,?_,λys ho=>?_⟩;cases hb:lI S'.cz o with
 |none=>rfl
 |some bs=>rw[(hw.cz o bs hb).1]at h4;omega
 obtain⟨xs,h6,h7,-⟩:=hw.aD o ys ho;simp_all
theorem bp.J {E:Env}{G:aZ}{S:ag}{a:Act}{w:World}(h:bp E G S a w):(E.C.J w/\oR G.bh w)/\E.C.mD<=w.heap.size:=⟨⟨E.C.ae8 E.w0 w (λk hk=>h.kept.block k (en hk E.hn) λhm=>by have :=(E.hown k hm).1;omega) E.hJ,h.ext'.Af⟩,bL E.hn h.kept.size⟩
theorem jY {a:Act}{t:Nat}:a.eval (.tmp t)=a.tmps.getD t undef:=rfl
theorem aO.get {E:Env}{G:aZ}{S:ag}{a:Act}{w:World}(h:bp E G S a w)(t:Nat):aO G w (a.tmps.getD t undef) (S.get t):=by unfold ag.get;split;rename_i hb;exact h.tmps t (by simp_all);exact .dy _
theorem RH (bh:Nat->Nat->Prop)(w:World)(s:ByteArray):dh bh w (.string s) (.str s.data.toList):=by have :=dh.str (bh:=bh) (w:=w) s.data.toList;omega
theorem tW (G:aZ)(w:World)(v:Value):aO G w v (FV.gT v):=by unfold FV.gT;split;exact .p _ _ (.bool _);exact .p _ _ (.int _ _);exact .p _ _ (RH _ _ _);exact .p _ _ .xF;exact .p _ _ .DW;exact .p _ _ .sX;exact .p _ _ .vq;exact .full [] none (.Uj none 0);exact .dy _
theorem Hw (G:aZ)(w:World)(v:Value):aO G w v (FV.Oe v):=by unfold FV.Oe;split;rename_i cs;have :=aO.agg (G:=G) (w:=w) cs.toList (cs.toList.map FV.gT) (by simp) (λi c x h1 h2=>by rw[aJ,h1]at h2;simp only[ek,bF]at h2;subst h2;exact tW _ _ _);omega;exact .p _ _ (by simpa using dh.eS (bh:=G.bh) (w:=w) [] [] rfl (by simp));exact tW _ _ _
theorem aO.val {E:Env}{G:aZ}{S:ag}{a:Act}{w:World}(h:bp E G S a w)(x:Operand):aO G w (a.eval x) (S.val x):=by
 cases x with
 |tmp t=>exact aO.get h t
 |const v=>exact Hw _ _ _
 |func f=>exact .p _ _ (by simpa[Act.eval]using dh.fn (bh:=G.bh) (w:=w) (.func f) [] [] [] [] rfl rfl (by simp) (by simp))
 |global g=>simp only[ag.val];split;rename_i xs hg;exact .p _ _ (h.ext'.Af g xs hg);exact .dy _
theorem bp.put {E:Env}{G:aZ}{S:ag}{a:Act}{w:World}(h:bp E G S a w)(dst:Option Nat){v:Value}{x:FV}(hv:aO G w v x):bp E G (S.put dst x) (a.put dst v) w:=by
 cases dst with
 |none=>exact h
 |some d=>
  refine⟨h.kept,by simpa[Act.put,ag.put]using h.size,h.ext'.keep rfl rfl rfl (λ_ _ h=>h) (.refl _),⟨h.iY.at_,h.iY.row,h.iY.cM⟩,h.mX,h.fo,λi hi=>?_,h.aD,h.gD,h.eU,h.ck,h.fS,h.dR⟩;have hi':i<a.tmps.size:=by rw[h.size];exact hi
  simp only[ag.put,Act.put];by_cases hd:i=d;simp_all;have :Nat.beq i d=false:=by cases hb:Nat.beq i d;rfl;simp_all
  rw[this];have :=h.tmps i hi;simpa[Array.getD,hi',BY,cU hd]using this
theorem bp.Oy {E:Env}{G:aZ}{S:ag}{a:Act}{w w':World}(h:bp E G S a w)(hb:Below w.heap.size w w')(N:Nat->Nat->Prop):bp E {G with bh:=λb o=>G.bh b o\/(w.heap.size<=b/\b<w'.heap.size/\N b o)} S a w':=by have hcell:∀b i,b<w.heap.size->w'.cell? ⟨b,i,none⟩=w.cell? ⟨b,i,none⟩:=λb i hl=>hb.cell (p:=⟨b,i,none⟩) hl;have aeq:∀b i,b<w.heap.size->w'.frozen? ⟨b,i,none⟩=w.frozen? ⟨b,i,none⟩:=λb i hl=>hb.frozen (p:=⟨b,i,none⟩) hl;have keep:∀v x,aO G w v x->aO {G with bh:=λb o=>G.bh b o\/(w.heap.size<=b/\b<w'.heap.size/\N b o)} w' v x:=λv x hv=>hv.keep (λb o hi=>.inl hi) (λb o c hi hc=>by rw[hcell b o (h.fo b o hi)];omega) ((fU.BV hb).oV _) (λ_ _ e=>e) (λ_ _ e=>e);refine⟨⟨hb.os.trans h.kept.os,hb.tape.trans h.kept.tape,hb.output.trans h.kept.output,bL h.kept.size hb.size,λk hk hk'=>(hb.block k (en hk h.kept.size)).trans (h.kept.block k hk hk'),λk cs T fr hk q=>let⟨cs',q1,q2⟩:=h.kept.shape k cs T fr hk q;⟨cs',(hb.block k (bq.1 q1).1).trans q1,q2⟩⟩,h.size,h.ext'.keep rfl rfl rfl keep (.BV hb) (Hv:=.more rfl rfl rfl rfl (λb i hi=>hi.imp id λhi=>hi.1) (λb hi=>.inl hi) λ_ _ h=>.inl h),?_,?_,?_,λi hi=>keep _ _ (h.tmps i hi),?_,?_,h.eU,h.ck,?_,h.dR⟩;exact h.iY.keep rfl rfl (λo bs q=>⟨q,rfl,rfl⟩) (λ_ _ _ q=>q) (λ_ _ e=>e) hb.size (λo bs b q _ e=>hb.block b (h.gD o b e).1) (λo r e=>hb.block r (h.iY.row o r e).2.1) (λo r i e hi=>hi.elim id λhi=>absurd (h.iY.row o r e).2.1 oO) (λ_ _ _ _ e=>e) (λ_ _ t q _ e=>⟨t,q,e⟩);rintro b o (hi|⟨hi,_⟩);exact h.mX b o hi;exact .inr (bL h.kept.size hi);rintro b o (hi|⟨_,hi,_⟩);exact en (h.fo b o hi) hb.size;omega;intro o cells ho;obtain⟨b,h1,h2⟩:=h.aD o cells ho;refine⟨b,h1,λi x hx=>?_⟩;obtain⟨c,h3,h4⟩:=h2 i x hx;exact⟨c,by rw[hcell b i (h.gD o b h1).1];omega,keep _ _ h4⟩;intro o b ho;obtain⟨h1,h2,h3⟩:=h.gD o b ho;refine⟨en h1 hb.size,h2,λi=>⟨?_,by simp_all⟩⟩;grind;intro t b s e T ht;obtain⟨h1,h2,hty,h3⟩:=h.fS t b s e T ht;refine⟨en h1 hb.size,h2,by rw[hb.block b h1];omega,λi hi hi'=>?_⟩;grind
theorem bp.ext {E:Env}{G:aZ}{S:ag}{a:Act}{w w':World}(h:bp E G S a w)(hb:Below w.heap.size w w'):bp E {G with bh:=λb o=>G.bh b o\/(w.heap.size<=b/\b<w'.heap.size)} S a w':=by have :=h.Oy hb λ_ _=>True;simp_all
theorem BZ (bh:Nat->Nat->Prop)(w:World)(o:Obj):vr bh w (w.alloc o):=(fU.BV ((Below.refl _ _).alloc (av _) _)).oV _
theorem bp.drew {E:Env}{G:aZ}{S:ag}{a:Act}{w:World}(h:bp E G S a w):bp E G S a {w with drawn:=w.drawn+1}:=by have keep:∀v x,aO G w v x->aO G {w with drawn:=w.drawn+1} v x:=λv x hv=>hv.keep (λ_ _ hi=>hi) (λ_ _ _ _ hc=>hc) (λ_ _ _ _ h=>h) (λ_ _ e=>e) (λ_ _ e=>e);refine⟨⟨h.kept.os,h.kept.tape,h.kept.output,h.kept.size,h.kept.block,h.kept.shape⟩,h.size,h.ext'.keep rfl rfl rfl keep (.refl _),h.iY.same rfl rfl rfl rfl (av _) (λ_ _ _ _ _ _=>rfl) (λ_ _ _=>rfl),h.mX,h.fo,λi hi=>keep _ _ (h.tmps i hi),λo cells ho=>?_,h.gD,h.eU,h.ck,h.fS,h.dR⟩;obtain⟨b,h1,h2⟩:=h.aD o cells ho;exact⟨b,h1,λi x hx=>let⟨c,h3,h4⟩:=h2 i x hx;⟨c,h3,keep _ _ h4⟩⟩
def AV.cell:AV->Value|.bool b=>.bool b|.int k n=>.int k n|.str s=>.string ⟨s.toArray⟩|_=>undef
def tv (agg:Bool)(xs:List AV):Value:=match agg with|true=>.agg (xs.map AV.cell).toArray|false=>(xs.map AV.cell).headD undef
def gM (P:Program)(t:TypeId):Bool:=match P.underlying t with|some (.struct _)=>true|some (.array _ _)=>true|_=>false
theorem RI {P:Program}{w:World}{t:TypeId}{d:TypeDesc}(h:P.underlying t=some d):(Go.isAgg t).run P w=.ok (gM P t) w:=by simp only[Go.isAgg,Sem.run_bind,run_underlying h,Result.andThen_ok,gM,h];cases d<;>rfl
theorem Hx (k:IntKind):xI k k=true:=by simp[xI]
theorem jd {L:List gC}{xs:List AV}(h:fF L xs=true):xs.length=L.length:=by
 induction L generalizing xs with
 |nil=>cases xs<;>simp_all[fF]
 |cons l L ih=>
  cases xs with
  |nil=>simp[fF]at h
  |cons x xs=>simp only[fF]at h;grind
theorem uI {L1 L2:List gC}{xs:List AV}(h:fF (L1++L2) xs=true):∃x1 x2,xs=x1++x2/\fF L1 x1=true/\fF L2 x2=true:=by
 induction L1 generalizing xs with
 |nil=>exact⟨[],xs,rfl,rfl,h⟩
 |cons l L1 ih=>
  cases xs with
  |nil=>simp[fF]at h
  |cons x xs=>simp only[cr,fF]at h;split at h;rename_i hx;obtain⟨x1,x2,rfl,h1,h2⟩:=ih h;exact⟨x::x1,x2,rfl,by simp[fF,hx,h1],h2⟩;simp_all
theorem Hy {L1:List gC}{x1 y1 x2 y2:List AV}(hx:fF L1 x1=true)(hy:fF L1 y1=true):sameAs (x1++x2) (y1++y2)=(sameAs x1 y1&&sameAs x2 y2):=by
 induction L1 generalizing x1 y1 with
 |nil=>cases x1<;>cases y1<;>simp_all[fF,sameAs]
 |cons l L1 ih=>
  cases x1 with
  |nil=>simp[fF]at hx
  |cons x x1=>
   cases y1 with
   |nil=>simp[fF]at hy
   |cons y y1=>simp only[fF]at hx hy;split at hx;split at hy;simp only[cr,sameAs,ih hx hy,Bool.and_assoc];simp_all;simp_all
theorem acg {P:Program}{w:World}{d:Nat}{t:TypeId}{l:gC}{x y:AV}(hu:(P.underlying t=some .bool/\l=.bool)\/(∃k,P.underlying t=some (.int k)/\l=.int k)\/(P.underlying t=some .string/\l=.str))(hx:l.fits x=true)(hy:l.fits y=true):(Op.equalIn (d+1) t x.cell y.cell).run P w=.ok (nK x y) w:=by rcases hu with⟨hu,rfl⟩|⟨k,hu,rfl⟩|⟨hu,rfl⟩;cases x<;>simp[gC.fits]at hx;cases y<;>simp[gC.fits]at hy;simp[AV.cell,Op.equalIn,run_underlying hu,nK];cases x<;>simp[gC.fits]at hx;cases y<;>simp[gC.fits]at hy;obtain rfl:=qR hx;obtain rfl:=qR hy;simp[AV.cell,Op.equalIn,run_underlying hu,nK,Hx];cases x<;>simp[gC.fits]at hx;cases y<;>simp[gC.fits]at hy;rename_i a b;simp only[AV.cell,Op.equalIn,Sem.run_bind,run_underlying hu,Result.andThen_ok,Sem.run_pure,nK,beq_toListBytes];simp_all
theorem ach {A x B:List AV}{off n:Nat}(hA:A.length=off)(hx:x.length=n):((A++(x++B)).map AV.cell).toArray.extract off (off+n)=(x.map AV.cell).toArray:=by simp_all
theorem RJ {P:Program}{w:World}{e:TypeId}{d:TypeDesc}{L:List gC}{A x B:List AV}{off:Nat}(hu:P.underlying e=some d)(hagg:gM P e=true->P.cellsOf e=L.length/\∃i,P.info? e=some i)(h1:gM P e=false->L.length=1)(hA:A.length=off)(hx:fF L x=true):(part e ((A++(x++B)).map AV.cell).toArray off).run P w=.ok (tv (gM P e) x) w:=by
 have hl:=jd hx;simp only[part,Sem.run_bind,RI hu,Result.andThen_ok];cases hq:gM P e with
 |true=>obtain⟨h2,i,hi⟩:=hagg hq;simp only[if_true,Sem.run_bind,run_sizeOf w hi,Result.andThen_ok,Sem.run_pure,h2,tv,<-hl,ach hA rfl]
 |false=>have h3:=h1 hq;match x,hl.trans h3 with|[a],_=>simp only[rP,if_false,tv];simp_all
theorem qm {P:Program}{d:Nat}{t:TypeId}{L:List gC}(h:dZ P (d+1) t=some L):(∃l,L=[l]/\gM P t=false/\((P.underlying t=some .bool/\l=.bool)\/(∃k,P.underlying t=some (.int k)/\l=.int k)\/(P.underlying t=some .string/\l=.str)))\/(P.cellsOf t=L.length/\gM P t=true/\((∃fs,P.underlying t=some (.struct fs)/\P.stoodInHeld t=false/\nR P d 0 fs.toList=some L)\/∃n e l,P.underlying t=some (.array n e)/\dZ P d e=some l/\P.cellsOf e=l.length/\L=(List.replicate n l).flatten)):=by
 have Yz:∀{o:Option (List gC)},ab5 P t o=some L->o=some L/\P.cellsOf t=L.length:=λ{o} h=>by unfold ab5 at h;split at h;grind;split at h;simp_all;simp_all
 unfold dZ at h;split at h;rename_i hu;obtain rfl:=ak h;exact .inl ⟨_,rfl,by simp[gM,hu],.inl ⟨hu,rfl⟩⟩;rename_i k hu;obtain rfl:=ak h;exact .inl ⟨_,rfl,by simp[gM,hu],.inr (.inl ⟨k,hu,rfl⟩)⟩;rename_i hu;obtain rfl:=ak h;exact .inl ⟨_,rfl,by simp[gM,hu],.inr (.inr ⟨hu,rfl⟩)⟩;rename_i fs hu;split at h;grind;rename_i hs;obtain⟨h1,h2⟩:=Yz h;exact .inr ⟨h2,by simp[gM,hu],.inl ⟨fs,hu,hs,h1⟩⟩;rename_i n e hu;split at h;grind;rename_i l hl;split at h;rename_i hb;obtain⟨h1,h2⟩:=Yz h;obtain h1:=ak h1;exact .inr ⟨h2,by simp[gM,hu],.inr ⟨n,e,l,hu,hl,aK hb,h1.symm⟩⟩;simp_all;simp_all
theorem vH {P:Program}{d:Nat}{t:TypeId}{L:List gC}(h:dZ P d t=some L):∃q i,P.underlying t=some q/\P.info? t=some i:=by
 cases d with
 |zero=>simp[dZ]at h
 |succ d=>
  have :∃q,P.underlying t=some q:=by rcases qm h with⟨l,-,-,⟨h,-⟩|⟨k,h,-⟩|⟨h,-⟩⟩|⟨-,-,⟨fs,h,-⟩|⟨n,e,l,h,-⟩⟩;all_goals simp_all
  obtain⟨q,hq⟩:=this;obtain⟨i,hi⟩:=info_of_underlying hq;simp_all
theorem oF {P:Program}{w:World}{d:Nat}{e:TypeId}{L:List gC}{A x B:List AV}{off:Nat}(h:dZ P d e=some L)(hA:A.length=off)(hx:fF L x=true):(part e ((A++(x++B)).map AV.cell).toArray off).run P w=.ok (tv (gM P e) x) w:=by
 obtain⟨q,i,hq,hi⟩:=vH h;cases d with
 |zero=>simp[dZ]at h
 |succ d=>refine RJ hq (λha=>⟨?_,i,hi⟩) (λha=>?_) hA hx;rcases qm h with⟨l,-,h2,-⟩|⟨h2,-,-⟩;simp_all;omega;rcases qm h with⟨l,rfl,-,-⟩|⟨-,h2,-⟩;rfl;simp_all
theorem Ef {P:Program}:∀(d:Nat),(∀(t:TypeId)(L:List gC)(D:Nat)(w:World)(xs ys:List AV),d<=D->dZ P d t=some L->fF L xs=true->fF L ys=true->(Op.equalIn D t (tv (gM P t) xs) (tv (gM P t) ys)).run P w=.ok (sameAs xs ys) w)/\(∀(fs:List Field)(off:Nat)(L:List gC)(D:Nat)(w:World)(A A' xs ys:List AV),d<=D->nR P d off fs=some L->A.length=off->A'.length=off->fF L xs=true->fF L ys=true->(Op.eqFields D ((A++xs).map AV.cell).toArray ((A'++ys).map AV.cell).toArray fs).run P w=.ok (sameAs xs ys) w)
 |0=>⟨λt L D w xs ys _ h=>by simp[dZ]at h,λfs off L D w A A' xs ys _ h=>by simp[nR]at h⟩
 |d+1=>by
  obtain⟨ih1,ih2⟩:=Ef d;constructor;intro t L D w xs ys hD h hx hy;obtain⟨D,rfl⟩:∃D',D=D'+1:=⟨D-1,oO⟩;rcases qm h with⟨l,rfl,ha,hu⟩|⟨hc,ha,⟨fs,hu,hs,hf⟩|⟨n,e,l,hu,hl,hce,rfl⟩⟩;rw[ha];match xs,ys,jd hx,jd hy with
   |[x],[y],_,_=>
    have hx':l.fits x=true:=by simp only[fF]at hx;split at hx;assumption;cases hx
    have hy':l.fits y=true:=by simp only[fF]at hy;split at hy;assumption;cases hy
    have :=acg (w:=w) (d:=D) hu hx' hy';simpa[tv,sameAs]using this
  rw[ha];have hfs:P.fieldsOf t=fs:=by simp[Program.fieldsOf,hu]
  simp only[tv];rw[run_equalIn_struct w D t _ _ (by rw[hfs];exact hu) hs,hfs];exact ih2 fs.toList 0 L D w [] [] xs ys oO hf rfl rfl hx hy;rw[ha];obtain⟨q,i,hq,hi⟩:=vH hl;simp only[tv];rw[run_equalIn_array w D _ _ hu hi];have key:∀(k j:Nat)(A A' xs ys:List AV),A.length=j*P.cellsOf e->A'.length=j*P.cellsOf e->fF (List.replicate k l).flatten xs=true->fF (List.replicate k l).flatten ys=true->(Op.eqItems D e (P.cellsOf e) ((A++xs).map AV.cell).toArray ((A'++ys).map AV.cell).toArray (List.range' j k)).run P w=.ok (sameAs xs ys) w:=by
   intro k;induction k with
   |zero=>intro j A A' xs ys _ _ hx hy;have e1:xs=[]:=cO.1 (jd hx);have e2:ys=[]:=cO.1 (jd hy);subst e1 e2;rfl
   |succ k ihk=>
    intro j A A' xs ys hA hA' hx hy;rw[List.replicate_succ,mZ]at hx hy;obtain⟨x1,x2,rfl,hx1,hx2⟩:=uI hx;obtain⟨y1,y2,rfl,hy1,hy2⟩:=uI hy;rw[List.range'_succ];simp only[Op.eqItems,Sem.run_bind,oF hl hA hx1,oF hl hA' hy1,Result.andThen_ok,ih1 e l D w x1 y1 oO hl hx1 hy1,Hy hx1 hy1];cases hs:sameAs x1 y1 with
    |false=>simp
    |true=>have :=ihk (j+1) (A++x1) (A'++y1) x2 y2 (by rw[ay,hA,jd hx1,bC,jZ,hce]) (by rw[ay,hA',jd hy1,bC,jZ,hce]) hx2 hy2;simp_all
  have :=key n 0 [] [] xs ys (by simp) (by simp) hx hy;rw[Ca];simp_all;intro fs off L D w A A' xs ys hD h hA hA' hx hy;cases fs with
  |nil=>simp only[nR,bF]at h;subst h;have e1:xs=[]:=cO.1 (jd hx);have e2:ys=[]:=cO.1 (jd hy);subst e1 e2;rfl
  |cons f fs=>
   simp only[nR]at h;split at h;rename_i hn ho;split at h;grind;rename_i l hl;split at h;grind;rename_i r hr;obtain rfl:=ak h;obtain⟨x1,x2,rfl,hx1,hx2⟩:=uI hx;obtain⟨y1,y2,rfl,hy1,hy2⟩:=uI hy;have ho:=aK ho;have hn':f.name≠ "_" :=by simpa using hn
   simp only[Op.eqFields,hn',ne_eq,not_false_eq_true,if_true,Sem.run_bind,oF hl (hA.trans ho.symm) hx1,oF hl (hA'.trans ho.symm) hy1,Result.andThen_ok,ih1 f.type l D w x1 y1 oO hl hx1 hy1,Hy hx1 hy1];cases hs:sameAs x1 y1 with
   |false=>simp
   |true=>have :=ih2 fs (off+l.length) r D w (A++x1) (A'++y1) x2 y2 oO hr (by rw[ay,hA,jd hx1]) (by rw[ay,hA',jd hy1]) hx2 hy2;simp_all
   simp_all
theorem gC.rep {bh:Nat->Nat->Prop}{w:World}{v:Value}{l:gC}{x:AV}(h:dh bh w v x)(hl:l.fits x=true):v=x.cell:=by cases h<;>cases l<;>first|rfl|(simp[gC.fits]at hl)
theorem Oz {bh:Nat->Nat->Prop}{w:World}:∀(L:List gC)(cs:List Value)(xs:List AV),cs.length=xs.length->fF L xs=true->(∀(i:Nat)(c:Value)(x:AV),cs[i]?=some c->xs[i]?=some x->dh bh w c x)->cs=xs.map AV.cell
 |[],cs,xs,hl,hf,_=>by have e2:xs=[]:=cO.1 (jd hf);simp_all
 |l::L,cs,[],hl,hf,hr=>by simp_all
 |l::L,[],x::xs,hl,hf,hr=>by simp_all
 |l::L,c::cs,x::xs,hl,hf,hr=>by simp only[fF]at hf;split at hf;rename_i hx;rw[bw,gC.rep (hr 0 c x rfl rfl) hx,Oz L cs xs (by simp_all) hf (λi c x h1 h2=>hr (i+1) c x (by simp_all) (by simp_all))];simp_all
theorem lR {agg:Bool}{L:List gC}{x:AV}(h:ij agg L x=true):fF L x.cells=true:=by cases agg<;>cases x<;>first|exact h|(simp[ij]at h)
theorem sO {bh:Nat->Nat->Prop}{w:World}{v:Value}{agg:Bool}{L:List gC}{x:AV}(h:dh bh w v x)(hf:ij agg L x=true):v=tv agg x.cells:=by
 cases agg with
 |true=>
  cases h with
  |agg cs xs hl ho hr=>have :=Oz L cs xs hl hf hr;rw[this];rfl
  |_=>simp[ij]at hf
 |false=>
  have hf':=lR hf;cases h with
  |agg cs xs hl ho hr=>simp[ij]at hf
  |_=>
   all_goals
    simp only[AV.cells]at hf';match L,hf' with
     |[],hf'=>simp[fF]at hf'
     |[l],hf'=>
      simp only[fF]at hf';split at hf';rename_i hx;cases l<;>first|rfl|(simp[gC.fits]at hx)
      cases hf'
     |_::_::_,hf'=>simp only[fF]at hf';split at hf'<;>cases hf'
theorem OA {agg:Bool}{L:List gC}{x y:AV}(hx:ij agg L x=true)(hy:ij agg L y=true):qd x y=sameAs x.cells y.cells:=by
 cases agg with
 |true=>
  cases x<;>first|(simp[ij]at hx;done)|skip
  cases y<;>first|(simp[ij]at hy;done)|skip
  rfl
 |false=>
  cases x<;>first|(simp[ij]at hx;done)|skip
  all_goals cases y<;>first|(simp[ij]at hy;done)|simp[qd,AV.cells,sameAs]
theorem KD {x y:AV}(h:nK x y=true):x=y:=by cases x<;>cases y<;>simp only[nK]at h<;>first|(simp at h;subst h;rfl)|(simp only[aR,beq_iff_eq]at h;obtain⟨h1,h2⟩:=h;rw[qR h1,h2])|cases h
theorem KE:∀{xs ys:List AV},sameAs xs ys=true->xs=ys
 |[],[],_=>rfl
 |[],_::_,h=>by simp[sameAs]at h
 |_::_,[],h=>by simp[sameAs]at h
 |x::xs,y::ys,h=>by simp only[sameAs,aR]at h;rw[KD h.1,KE h.2]
theorem YA {x y:AV}(h:qd x y=true):x=y:=by unfold qd at h;split at h;rw[KE h];exact KD h
theorem RK {P:Program}{w:World}{d:Nat}{em:Bool}{t:TypeId}{l:gC}{x:AV}(hu:(P.underlying t=some .bool/\l=.bool)\/(∃k,P.underlying t=some (.int k)/\l=.int k)\/(P.underlying t=some .string/\l=.str))(hx:l.fits x=true):(Instr.checkKey em (d+1) t x.cell).run P w=.ok () w:=by unfold Instr.checkKey;rcases hu with⟨hu,rfl⟩|⟨k,hu,rfl⟩|⟨hu,rfl⟩;all_goals cases x<;>simp[gC.fits]at hx;simp[AV.cell,run_underlying hu]
def sR (em:Bool)(D:Nat)(xs:Array Value):List Field->Sem Unit|[]=>pure ()|f::fs=>if f.name≠ "_" then do let a<-part f.type xs f.offset;Instr.checkKey em D f.type a;sR em D xs fs else sR em D xs fs
def xQ (em:Bool)(D:Nat)(e:TypeId)(c:Nat)(xs:Array Value):List Nat->Sem Unit|[]=>pure ()|i::is=>do let a<-part e xs (i*c);Instr.checkKey em D e a;xQ em D e c xs is
theorem Hz {P:Program}{w:World}{em:Bool}{D:Nat}{t:TypeId}{fs:Array Field}(xs:Array Value)(hu:P.underlying t=some (.struct fs)):(Instr.checkKey em (D+1) t (.agg xs)).run P w=(sR em D xs fs.toList).run P w:=by
 unfold Instr.checkKey;simp only[Sem.run_bind,run_underlying hu,Result.andThen_ok];rw[<-Array.forIn_toList];generalize fs.toList=fs;clear hu;induction fs generalizing w with
 |nil=>rfl
 |cons f fs ih=>
  simp only[List.forIn_cons,sR,Sem.run_bind,Sem.run_ite];split;generalize(part f.type xs f.offset).run P w=r1;cases r1 with
  |ok a w1=>
   simp only[Result.andThen_ok];generalize(Instr.checkKey em D f.type a).run P w1=r2;cases r2 with
   |ok b w2=>simp_all
   |halt x w2=>rfl
  |halt x w1=>rfl
  simp_all
theorem JI {P:Program}{w:World}{em:Bool}{D:Nat}{t e:TypeId}{n:Nat}{i:TypeInfo}(xs:Array Value)(hu:P.underlying t=some (.array n e))(hi:P.info? e=some i):(Instr.checkKey em (D+1) t (.agg xs)).run P w=(xQ em D e (P.cellsOf e) xs (List.range n)).run P w:=by
 unfold Instr.checkKey;simp only[Sem.run_bind,run_underlying hu,Result.andThen_ok];simp only[Std.Legacy.Range.forIn_eq_forIn_range',Std.Legacy.Range.size,Nat.sub_zero,Nat.add_one_sub_one,Nat.div_one,Ca];generalize List.range' 0 n=is;clear hu;induction is generalizing w with
 |nil=>rfl
 |cons j is ih=>
  simp only[List.forIn_cons,xQ,Sem.run_bind,run_sizeOf w hi,Result.andThen_ok];generalize(part e xs (j*P.cellsOf e)).run P w=r1;cases r1 with
  |ok a w1=>
   simp only[Result.andThen_ok];generalize(Instr.checkKey em D e a).run P w1=r2;cases r2 with
   |ok b w2=>simp_all
   |halt x w2=>rfl
  |halt x w1=>rfl
theorem rQ {P:Program}{em:Bool}:∀(d:Nat),(∀(t:TypeId)(L:List gC)(D:Nat)(w:World)(xs:List AV),d<=D->dZ P d t=some L->fF L xs=true->(Instr.checkKey em D t (tv (gM P t) xs)).run P w=.ok () w)/\(∀(fs:List Field)(off:Nat)(L:List gC)(D:Nat)(w:World)(A xs:List AV),d<=D->nR P d off fs=some L->A.length=off->fF L xs=true->(sR em D ((A++xs).map AV.cell).toArray fs).run P w=.ok () w)
 |0=>⟨λt L D w xs _ h=>by simp[dZ]at h,λfs off L D w A xs _ h=>by simp[nR]at h⟩
 |d+1=>by
  obtain⟨ih1,ih2⟩:=rQ (P:=P) (em:=em) d;constructor;intro t L D w xs hD h hx;obtain⟨D,rfl⟩:∃D',D=D'+1:=⟨D-1,oO⟩;rcases qm h with⟨l,rfl,ha,hu⟩|⟨hc,ha,⟨fs,hu,hs,hf⟩|⟨n,e,l,hu,hl,hce,rfl⟩⟩;rw[ha];match xs,jd hx with
   |[x],_=>
    have hx':l.fits x=true:=by simp only[fF]at hx;split at hx;omega;grind
    exact RK hu hx'
  rw[ha];simp only[tv];rw[Hz _ hu];exact ih2 fs.toList 0 L D w [] xs oO hf rfl hx;rw[ha];obtain⟨q,i,hq,hi⟩:=vH hl;simp only[tv];rw[JI _ hu hi];have key:∀(k j:Nat)(A xs:List AV),A.length=j*P.cellsOf e->fF (List.replicate k l).flatten xs=true->(xQ em D e (P.cellsOf e) ((A++xs).map AV.cell).toArray (List.range' j k)).run P w=.ok () w:=by
   intro k;induction k with
   |zero=>intro j A xs _ _;rfl
   |succ k ihk=>intro j A xs hA hx;rw[List.replicate_succ,mZ]at hx;obtain⟨x1,x2,rfl,hx1,hx2⟩:=uI hx;rw[List.range'_succ];simp only[xQ,Sem.run_bind,Result.andThen_ok,oF hl hA hx1,ih1 e l D w x1 oO hl hx1];have :=ihk (j+1) (A++x1) x2 (by rw[ay,hA,jd hx1,bC,jZ,hce]) hx2;simp_all
  have :=key n 0 [] xs (by simp) hx;rw[Ca];simp_all;intro fs off L D w A xs hD h hA hx;cases fs with
  |nil=>rfl
  |cons f fs=>
   simp only[nR]at h;split at h;rename_i hn ho;split at h;grind;rename_i l hl;split at h;grind;rename_i r hr;obtain rfl:=ak h;obtain⟨x1,x2,rfl,hx1,hx2⟩:=uI hx;have ho:=aK ho;have hn':f.name≠ "_" :=by simpa using hn
   have :=ih2 fs (off+l.length) r D w (A++x1) x2 oO hr (by rw[ay,hA,jd hx1]) hx2;rw[bl]at this;simp only[sR,hn',ne_eq,not_false_eq_true,if_true,Sem.run_bind,oF hl (hA.trans ho.symm) hx1,Result.andThen_ok,ih1 f.type l D w x1 oO hl hx1];omega;simp_all
def iz (k:AV):List AV->Option Nat|[]=>none|x::xs=>match qd k x with|true=>some 0|false=>(iz k xs).map (·+1)
def rR (agg:Bool)(L:List gC)(es:List MapEntry)(ks:List AV):Prop:=es.length=ks.length/\∀(i:Nat)(e:MapEntry)(x:AV),es[i]?=some e->ks[i]?=some x->e.key=tv agg x.cells/\ij agg L x=true
theorem rR.tail {agg:Bool}{L:List gC}{e:MapEntry}{es:List MapEntry}{x:AV}{ks:List AV}(h:rR agg L (e::es) (x::ks)):e.key=tv agg x.cells/\ij agg L x=true/\rR agg L es ks:=⟨(h.2 0 e x rfl rfl).1,(h.2 0 e x rfl rfl).2,by simpa using h.1,λi e' x' h1 h2=>h.2 (i+1) e' x' (by simp_all) (by simp_all)⟩
def found (es:List MapEntry)(i:Nat)(o:Option Nat):Option (Nat×Value):=o.bind λj=>(es[j]?).map λe=>(i+j,e.val)
theorem HA (e:MapEntry)(es:List MapEntry)(i:Nat)(o:Option Nat):found (e::es) i (o.map (·+1))=found es (i+1) o:=by
 cases o with
 |none=>rfl
 |some j=>simp[found,fK,nc 1]
theorem xR {P:Program}{w:World}{t:TypeId}{d:Nat}{L:List gC}(hd:d<=10000)(hL:dZ P d t=some L){k:AV}(hk:ij (gM P t) L k=true):∀(es:List MapEntry)(ks:List AV)(i:Nat),rR (gM P t) L es ks->(Instr.findAsking t (tv (gM P t) k.cells) es i).run P w=.ok (found es i (iz k ks)) w
 |[],ks,i,h=>by have :ks=[]:=cO.1 h.1.symm;subst this;rfl
 |e::es,[],i,h=>by have :=h.1;simp_all
 |e::es,x::ks,i,h=>by
  obtain⟨h1,h2,h3⟩:=h.tail;have heq:=(Ef d).1 t L 10000 w k.cells x.cells hd hL (lR hk) (lR h2);have heq':(Op.equal t (tv (gM P t) k.cells) e.key).run P w=.ok (qd k x) w:=by rw[h1,OA hk h2];exact heq
  simp only[Instr.findAsking,Sem.run_bind,heq',Result.andThen_ok,iz];cases hs:qd k x with
  |true=>rfl
  |false=>have :=xR (w:=w) hd hL hk es ks (i+1) h3;simp only[rP,if_false,this,HA]
theorem OB {l:gC}{k:AV}(h:ij false [l] k=true):l.fits k=true:=by
 cases k<;>first|(simp[ij]at h;done)|skip
 all_goals have :=lR h;simp only[AV.cells,fF]at this;split at this;assumption;cases this
theorem KF {P:Program}{t:TypeId}{q:TypeDesc}{l:gC}(hu:P.underlying t=some q)(ha:gM P t=false)(hl:(P.underlying t=some .bool/\l=.bool)\/(∃k,P.underlying t=some (.int k)/\l=.int k)\/(P.underlying t=some .string/\l=.str)){k:AV}(hk:ij false [l] k=true):∀(es:List MapEntry)(ks:List AV)(i:Nat),rR false [l] es ks->Instr.findNow q (tv false k.cells) es i=some (found es i (iz k ks))
 |[],ks,i,h=>by have :ks=[]:=cO.1 h.1.symm;subst this;rfl
 |e::es,[],i,h=>by have :=h.1;simp_all
 |e::es,x::ks,i,h=>by
  obtain⟨h1,h2,h3⟩:=h.tail;have hs:Instr.sameNow q (tv false k.cells) e.key=some (qd k x):=by
   rw[h1];have f1:=OB hk;have f2:=OB h2;rcases hl with⟨hl,rfl⟩|⟨kk,hl,rfl⟩|⟨hl,rfl⟩;all_goals
    rw[hu]at hl;obtain rfl:=ak hl;cases k<;>first|(simp[gC.fits]at f1;done)|skip
    cases x<;>first|(simp[gC.fits]at f2;done)|skip
   rfl;simp only[gC.fits]at f1 f2;obtain rfl:=qR f1;obtain rfl:=qR f2;simp[tv,AV.cells,AV.cell,Instr.sameNow,qd,nK,Hx];simp only[tv,AV.cells,AV.cell,Instr.sameNow,qd,nK,bw,fV,List.headD_cons,beq_toListBytes];simp_all
  simp only[Instr.findNow,hs,iz];cases hq:qd k x with
  |true=>rfl
  |false=>have :=KF hu ha hl hk es ks (i+1) h3;simp only[this,HA]
theorem vJ {P:Program}{w:World}{t:TypeId}{d:Nat}{L:List gC}(hd:d<=10000)(hL:dZ P d t=some L){k:AV}(hk:ij (gM P t) L k=true){es:List MapEntry}{ks:List AV}(h:rR (gM P t) L es ks):(Instr.findKey t (tv (gM P t) k.cells) es).run P w=.ok (found es 0 (iz k ks)) w:=by
 obtain⟨q,i,hq,hi⟩:=vH hL;cases d with
 |zero=>simp[dZ]at hL
 |succ d=>
  rcases qm hL with⟨l,rfl,ha,hu⟩|⟨hc,ha,hu⟩;rw[ha]at hk h⊢;simp only[Instr.findKey,Sem.run_bind,run_underlying hq,Result.andThen_ok,KF hq ha hu hk es ks 0 h,Sem.run_pure];have amt:=xR (w:=w) hd hL hk es ks 0 h;have ajS:Instr.findNow q (tv (gM P t) k.cells) es 0=(match es with|[]=>some none|_::_=>none):=by
   cases es with
   |nil=>rfl
   |cons e es=>rcases hu with⟨fs,hu,-⟩|⟨n,e',l,hu,-⟩;all_goals rw[hq]at hu;obtain rfl:=ak hu;rfl
  simp only[Instr.findKey,Sem.run_bind,run_underlying hq,Result.andThen_ok,ajS];cases es with
  |nil=>have :ks=[]:=cO.1 h.1.symm;subst this;rfl
  |cons e es=>omega
theorem Aq {l:gC}{x:AV}(h:l.fits x=true)(n:Nat):Instr.sameBits n x.cell x.cell=true:=by cases l<;>cases x<;>simp[gC.fits]at h<;>cases n<;>simp[AV.cell,Instr.sameBits,beq_toListBytes]
theorem Cb {p:Value->Value->Bool}:∀(xs:List Value),(∀x,x∈xs->p x x=true)->((xs.zip xs).all λ(a,b)=>p a b)=true|[],_=>rfl|x::xs,h=>by simp only[List.zip_cons_cons,vK,h x (by simp),gw];exact Cb xs λy hy=>h y (by grind)
theorem OC {agg:Bool}{L:List gC}{x:AV}(h:ij agg L x=true)(n:Nat):Instr.sameBits (n+1) (tv agg x.cells) (tv agg x.cells)=true:=by
 have hc:=lR h;cases agg with
 |true=>
  have hall:∀{L:List gC}{xs:List AV},fF L xs=true->∀y∈xs,∃l:gC,l.fits y=true:=by
   intro L;induction L with
   |nil=>intro xs h y hy;have :=cO.1 (jd h);simp_all
   |cons l L ih=>
    intro xs h y hy;cases xs with
    |nil=>simp_all
    |cons x xs=>simp only[fF]at h;grind
  simp only[tv,Instr.sameBits,beq_self_eq_true,gw];refine Cb (p:=Instr.sameBits n) _ λy hy=>?_;obtain⟨z,hz,rfl⟩:=aB.1 (by simpa using hy);obtain⟨l,hl⟩:=hall hc z hz;exact Aq hl n
 |false=>
  cases x<;>first|(simp[ij]at h;done)|skip
  all_goals
   simp only[AV.cells]at hc;match L,hc with
    |[],hc=>simp[fF]at hc
    |[l],hc=>simp only[fF]at hc;split at hc;rename_i hx;exact Aq hx _;cases hc
    |_::_::_,hc=>simp only[fF]at hc;split at hc<;>cases hc
theorem Cc {P:Program}{w:World}{agg:Bool}{L:List gC}{x:AV}(h:ij agg L x=true):(Instr.keyThatStays (tv agg x.cells) (tv agg x.cells)).run P w=.ok (tv agg x.cells) w:=by unfold Instr.keyThatStays;rw[OC h];rfl
theorem RL {l:List (TypeId×jE)}{t:TypeId}{i:jE}(h:bK l t=some i):(t,i)∈l:=by
 induction l with
 |nil=>cases h
 |cons p l ih=>obtain⟨u,j⟩:=p;simp only[bK]at h;split at h;simp_all;simp_all
theorem Ctx.ok (C:Ctx){t:TypeId}{i:jE}(h:bK C.jh t=some i):fO C.P t i:=C.ael t i (RL h)
theorem fO.info' {P:Program}{t:TypeId}{i:jE}(h:fO P t i):∃inf z,P.info? t=some inf/\inf.size=i.size/\inf.bytes=i.bytes/\inf.zero=some z/\z.cells.toList=i.zero:=by have :=h.info;simp_all
theorem fO.xS {P:Program}{t:TypeId}{i:jE}(h:fO P t i):∃d,P.underlying t=some d/\shapeOf d=i.shape:=by have :=h.und;simp_all
theorem fO.sizeOf {P:Program}{t:TypeId}{i:jE}(h:fO P t i)(w:World):(Go.sizeOf t).run P w=.ok i.size w:=by obtain⟨inf,z,h1,h2,-⟩:=h.info';simp[Go.sizeOf,run_typeInfo w h1,h2]
theorem fO.isAgg {P:Program}{t:TypeId}{i:jE}(h:fO P t i)(w:World):(Go.isAgg t).run P w=.ok i.shape.isAgg w:=by obtain⟨d,h1,h2⟩:=h.xS;simp only[Go.isAgg,Sem.run_bind,run_underlying h1,Result.andThen_ok];rw[<-h2];cases d<;>rfl
theorem fO.gM {P:Program}{t:TypeId}{i:jE}(h:fO P t i):Qv.gM P t=i.shape.isAgg:=by obtain⟨d,h1,h2⟩:=h.xS;rw[<-h2];unfold Qv.gM;rw[h1];cases d<;>rfl
theorem fO.slice {P:Program}{t e:TypeId}{a b:Nat}{z:List Value}(h:fO P t ⟨a,b,.slice e,z⟩):P.underlying t=some (.slice e):=by obtain⟨d,h1,h2⟩:=h.xS;cases d<;>simp[shapeOf]at h2;simp_all
theorem fO.array {P:Program}{t e:TypeId}{a b n:Nat}{z:List Value}(h:fO P t ⟨a,b,.array n e,z⟩):P.underlying t=some (.array n e):=by obtain⟨d,h1,h2⟩:=h.xS;cases d<;>simp[shapeOf]at h2;simp_all
theorem fO.str {P:Program}{t:TypeId}{a b:Nat}{z:List Value}(h:fO P t ⟨a,b,.str,z⟩):P.underlying t=some .string:=by obtain⟨d,h1,h2⟩:=h.xS;cases d<;>simp[shapeOf]at h2;omega
theorem fO.bool {P:Program}{t:TypeId}{a b:Nat}{z:List Value}(h:fO P t ⟨a,b,.bool,z⟩):P.underlying t=some .bool:=by obtain⟨d,h1,h2⟩:=h.xS;cases d<;>simp[shapeOf]at h2;omega
theorem fO.int {P:Program}{t:TypeId}{a b:Nat}{k:IntKind}{z:List Value}(h:fO P t ⟨a,b,.int k,z⟩):P.underlying t=some (.int k):=by obtain⟨d,h1,h2⟩:=h.xS;cases d<;>simp[shapeOf]at h2;simp_all
theorem fO.struct {P:Program}{t:TypeId}{a b:Nat}{fs:List (Nat×TypeId)}{z:List Value}(h:fO P t ⟨a,b,.struct fs,z⟩):∃gs,P.underlying t=some (.struct gs)/\fs=gs.toList.map λf=>(f.offset,f.type):=by obtain⟨d,h1,h2⟩:=h.xS;cases d<;>simp[shapeOf]at h2;simp_all
theorem fO.ptr {P:Program}{t e:TypeId}{a b:Nat}{z:List Value}(h:fO P t ⟨a,b,.ptr e,z⟩):P.underlying t=some (.pointer e):=by obtain⟨d,h1,h2⟩:=h.xS;cases d<;>simp[shapeOf]at h2;simp_all
theorem Eg {P:Program}{w:World}{t e:TypeId}(d:Nat)(p:Option Addr)(h:P.underlying t=some (.pointer e)):(Op.equalIn (d+1) t (.pointer p) (.pointer none)).run P w=.ok p.isNone w:=by cases p<;>simp[Op.equalIn,run_underlying h]
theorem oW {P:Program}{w:World}{t e:TypeId}(p:Option Addr)(h:P.underlying t=some (.pointer e)):(Op.equal t (.pointer p) (.pointer none)).run P w=.ok p.isNone w:=Eg 9999 p h
theorem Cd {P:Program}{w:World}{t e:TypeId}{i:jE}(d:Nat)(p:Addr)(h:P.underlying t=some (.pointer e))(hi:fO P e i):(Op.equalIn (d+1) t (.pointer (some p)) (.pointer (some p))).run P w=.ok true w:=by have hso:=hi.sizeOf w;simp only[Op.equalIn,Sem.run_bind,run_underlying h,Result.andThen_ok,hso,sameAddr];simp_all
theorem xd {P:Program}{w:World}{t e:TypeId}{i:jE}(p:Addr)(h:P.underlying t=some (.pointer e))(hi:fO P e i):(Op.equal t (.pointer (some p)) (.pointer (some p))).run P w=.ok true w:=Cd 9999 p h hi
theorem mL {α:Type}(n:Nat)(xs:List α):gb n xs=xs.drop n:=by
 induction n generalizing xs with
 |zero=>rfl
 |succ n ih=>cases xs<;>simp[gb,ih]
theorem lY {α:Type}{n:Nat}{xs:List α}{y:α}{ys:List α}(h:gb n xs=y::ys):xs[n]?=some y:=by rw[mL]at h;have :=aV (·[0]?) h;grind
theorem vL {n:Nat}{xs cs:List FV}(h:takeN n xs=some cs):cs=xs.take n/\n<=xs.length:=by
 induction n generalizing xs cs with
 |zero=>simp[takeN]at h;grind
 |succ n ih=>
  cases xs with
  |nil=>simp[takeN]at h
  |cons x xs=>simp only[takeN]at h;grind
theorem AW {n:Nat}{xs cs:List AV}(h:Fb n xs=some cs):cs=xs.take n/\n<=xs.length:=by
 induction n generalizing xs cs with
 |zero=>simp[Fb]at h;grind
 |succ n ih=>
  cases xs with
  |nil=>simp[Fb]at h
  |cons x xs=>simp only[Fb]at h;grind
theorem fO.field {P:Program}{s:TypeId}{a b f:Nat}{fs:List (Nat×TypeId)}{z:List Value}{o:Nat}{t:TypeId}{r:List (Nat×TypeId)}(h:fO P s ⟨a,b,.struct fs,z⟩)(hd:gb f fs=(o,t)::r):∃(gs:Array Field) (g:Field),P.underlying s=some (.struct gs)/\gs[f]?=some g/\g.offset=o/\g.type=t:=by obtain⟨gs,h1,h2⟩:=h.struct;have h3:=lY hd;simp_all
section
variable {bh:Nat->Nat->Prop}{w:World}{v:Value}{G:aZ}
theorem dh.fL {k:IntKind}{n:Int}(h:dh bh w v (.int k n)):v=.int k n:=by cases h;rfl
theorem dh.mN {b:Bool}(h:dh bh w v (.bool b)):v=.bool b:=by cases h;rfl
theorem dh.jL {s:List UInt8}(h:dh bh w v (.str s)):v=.string ⟨s.toArray⟩:=by cases h;rfl
theorem aO.fL {k:IntKind}{n:Int}(h:aO G w v (.p (.int k n))):v=.int k n:=by
 cases h with
 |p _ _ h=>exact h.fL
theorem aO.HB (h:aO G w v (.p .xF)):v=.pointer none:=by
 cases h with
 |p _ _ h=>cases h;rfl
theorem aO.mN {b:Bool}(h:aO G w v (.p (.bool b))):v=.bool b:=by
 cases h with
 |p _ _ h=>exact h.mN
theorem aO.jL {s:List UInt8}(h:aO G w v (.p (.str s))):v=.string ⟨s.toArray⟩:=by
 cases h with
 |p _ _ h=>exact h.jL
theorem aO.plain {x:AV}(h:aO G w v (.p x)):dh G.bh w v x:=by
 cases h with
 |p _ _ h=>omega
theorem aO.VN (h:aO G w v (.p (.eS []))):v=undef:=by
 cases h with
 |p _ _ h=>
  cases h with
  |eS cs xs hl h=>
   have :cs=[]:=by grind
   subst this;rfl
theorem aO.og {o off:Nat}(h:aO G w v (.ptr o off)):∃b,v=.pointer (some ⟨b,off,none⟩)/\G.loc o=some b:=by
 cases h with
 |ptr _ _ b h=>simp_all
theorem aO.Gy {o bI:Nat}{T:TypeId}(h:aO G w v (.fT o T bI)):∃n c b,v=.slice (some ⟨b,0,none⟩) n c/\G.loc o=some b/\G.tail o=some (b,n*bI,c*bI,T)/\n<=c/\0<bI:=by
 cases h with
 |fT _ _ _ n c b h1 h2 h3 h4=>grind
theorem dh.kP {xs:List (List AV)}(h:dh bh w v (.sl xs)):∃a c,v=.slice a xs.length c/\xs.length<=c/\(xs≠[]->∃(b off bI:Nat) (cell:Nat->Nat->Value),a=some ⟨b,off,none⟩/\(∀(i:Nat)(ys:List AV),xs[i]?=some ys->ys.length=bI)/\(∀(i:Nat)(ys:List AV)(j:Nat)(y:AV),xs[i]?=some ys->ys[j]?=some y->y.one=true/\w.cell? ⟨b,off+i*bI+j,none⟩=some (cell i j)/\bh b (off+i*bI+j)/\dh bh w (cell i j) y)):=by
 cases h with
 |Uj a c=>simp_all
 |sl b off c bI xs cell h1 h2 h3 h4 h5 h6=>exact⟨_,c,rfl,h6,λ_=>⟨b,off,bI,cell,rfl,h1,λi ys j y a b=>⟨h2 i ys j y a b,h3 i ys j y a b,h4 i ys j y a b,h5 i ys j y a b⟩⟩⟩
theorem aO.elems {x:FV}{xs:List (List AV)}(hx:x.elems=some xs)(h:aO G w v x):dh G.bh w v (.sl xs):=by
 cases x with
 |p y=>cases y<;>simp[FV.elems]at hx;subst hx;exact h.plain
 |gi t T e ys=>simp only[FV.elems,bF]at hx;subst hx;exact h.eW rfl
 |full ys=>simp only[FV.elems,bF]at hx;subst hx;exact h.eW rfl
 |_=>simp[FV.elems]at hx
theorem dh.Ce {xs:List AV}(h:dh bh w v (.imp xs)):∃b off,v=.pointer (some ⟨b,off,none⟩)/\∀(j:Nat)(y:AV),xs[j]?=some y->∃c,y.one=true/\w.cell? ⟨b,off+j,none⟩=some c/\bh b (off+j)/\dh bh w c y:=by
 cases h with
 |imp b off xs cell h2 h3 h4 h5=>grind
theorem dh.RM {xs:List AV}{b off:Nat}(h:∀(j:Nat)(y:AV),xs[j]?=some y->∃c,y.one=true/\w.cell? ⟨b,off+j,none⟩=some c/\bh b (off+j)/\dh bh w c y):dh bh w (.pointer (some ⟨b,off,none⟩)) (.imp xs):=by refine .imp b off xs (λj=>(w.cell? ⟨b,off+j,none⟩).getD undef) (λj y hy=>(h j y hy).choose_spec.1) (λj y hy=>?_) (λj y hy=>(h j y hy).choose_spec.2.2.1) (λj y hy=>?_);grind;grind
theorem dh.OD {xs:List (List AV)}{b off bI c:Nat}(hc:xs.length<=c)(h1:∀(i:Nat)(ys:List AV),xs[i]?=some ys->ys.length=bI)(h:∀(i:Nat)(ys:List AV)(j:Nat)(y:AV),xs[i]?=some ys->ys[j]?=some y->∃u,y.one=true/\w.cell? ⟨b,off+i*bI+j,none⟩=some u/\bh b (off+i*bI+j)/\dh bh w u y):dh bh w (.slice (some ⟨b,off,none⟩) xs.length c) (.sl xs):=by refine .sl b off c bI xs (λi j=>(w.cell? ⟨b,off+i*bI+j,none⟩).getD undef) h1 (λi ys j y a a'=>(h i ys j y a a').choose_spec.1) (λi ys j y a a'=>?_) (λi ys j y a a'=>(h i ys j y a a').choose_spec.2.2.1) (λi ys j y a a'=>?_) hc;grind;grind
theorem dh.YB {x:AV}(h:dh bh w v x)(hx:x.one=true):v.oneCell'=true:=by cases h<;>first|rfl|(simp[AV.one]at hx)
theorem aO.YB {x:FV}(h:aO G w v x)(hx:x.one=true):v.oneCell'=true:=by
 cases h with
 |p v x h=>exact h.YB (by cases x<;>simp_all[FV.one,AV.one])
 |_=>first|rfl|(simp[FV.one]at hx)
end
section
variable {E:Env}{G:aZ}{S:ag}{a:Act}{w:World}{o:Oper}{K:FV->Prop}
def Yields (E:Env)(G:aZ)(a:Act)(w:World)(o:Oper)(K:FV->Prop):Prop:=∃v x w',(execOp a.eval o).run E.C.P w=.ok (.value v) w'/\K x/\Below w.heap.size w w'/\aO {G with bh:=λb o=>G.bh b o\/(w.heap.size<=b/\b<w'.heap.size)} w' v x
theorem Yields.same {v:Value}{x:FV}(h:(execOp a.eval o).run E.C.P w=.ok (.value v) w)(hk:K x)(hr:aO G w v x):Yields E G a w o K:=⟨v,x,w,h,hk,Below.refl _ _,hr.keep (λ_ _ h=>.inl h) (λ_ _ _ _ h=>h) (.refl _ _) (λ_ _ h=>h) (λ_ _ h=>h)⟩
theorem qn {op:BinOp}{t yt:TypeId}{x y:Operand}{p q:Option Addr}{b:Bool}(ho:o.op=.binOp op t x y yt)(ex:a.eval x=.pointer p)(ey:a.eval y=.pointer q)(hq:(Op.equal t (.pointer p) (.pointer q)).run E.C.P w=.ok b w)(h:(op=.eql/\K (.p (.bool b)))\/(op=.neq/\K (.p (.bool (!b))))):Yields E G a w o K:=by
 have hg:∀op,(eqGuard op t x y (.pointer p) (.pointer q)).run E.C.P w=.ok () w:=by intro op;unfold eqGuard;split<;>simp
 rcases h with⟨rfl,h⟩|⟨rfl,h⟩;exact Yields.same (by simp[execOp,ho,ex,ey,hg,binOp,hq]) h (.p _ _ (.bool _));exact Yields.same (by simp[execOp,ho,ex,ey,hg,binOp,hq]) h (.p _ _ (.bool _))
theorem fO.iface {P:Program}{t:TypeId}{a b:Nat}{z:List Value}(h:fO P t ⟨a,b,.iface,z⟩):∃ms,P.underlying t=some (.interface ms):=by obtain⟨d,h1,h2⟩:=h.xS;cases d<;>simp[shapeOf]at h2;simp_all
theorem JJ {P:Program}{w:World}{t:TypeId}{ms:Array (String×TypeId)}(d:Nat)(v:Value)(b:Bool)(h:P.underlying t=some (.interface ms))(hv:v=.nilIface/\b=true\/(∃u x,v=.iface u x)/\b=false):(Op.equalIn (d+1) t v .nilIface).run P w=.ok b w:=by rcases hv with⟨rfl,rfl⟩|⟨⟨u,x,rfl⟩,rfl⟩<;>simp[Op.equalIn,run_underlying h]
theorem OE {P:Program}{w:World}{t:TypeId}{ms:Array (String×TypeId)}(v:Value)(b:Bool)(h:P.underlying t=some (.interface ms))(hv:v=.nilIface/\b=true\/(∃u x,v=.iface u x)/\b=false):(Op.equal t v .nilIface).run P w=.ok b w:=JJ 9999 v b h hv
theorem OF (hs:bp E G S a w){op:BinOp}{t yt:TypeId}{x y:Operand}(ho:o.op=.binOp op t x y yt)(hy:Mj y=true)(h:AR E.C t op (S.val x) K):Yields E G a w o K:=by
 have hx:=aO.val hs x;generalize S.val x=vx at h hx;generalize hex:a.eval x=v at hx;unfold Mj at hy;split at hy;have ey:a.eval (.const .nilIface)=.nilIface:=rfl;have key:∀(b:Bool),(v=.nilIface/\b=true\/(∃u x,v=.iface u x)/\b=false)->(∃ms,E.C.P.underlying t=some (.interface ms))->((op=.eql/\K (.p (.bool b)))\/(op=.neq/\K (.p (.bool (!b)))))->Yields E G a w o K:=λb hv ⟨ms,hm⟩ hk=>by
  have hq:(Op.equal t v .nilIface).run E.C.P w=.ok b w:=OE v b hm hv;have hg:(eqGuard op t x (.const .nilIface) v .nilIface).run E.C.P w=.ok () w:=by rcases hv with⟨rfl,rfl⟩|⟨⟨u,z,rfl⟩,rfl⟩;unfold eqGuard;simp_all;unfold eqGuard;simp_all
  rcases hv with⟨rfl,rfl⟩|⟨⟨u,z,rfl⟩,rfl⟩;rcases hk with⟨rfl,hk⟩|⟨rfl,hk⟩;exact Yields.same (by simp[execOp,ho,hex,ey,hg,binOp,hq]) hk (.p _ _ (.bool _));exact Yields.same (by simp[execOp,ho,hex,ey,hg,binOp,hq]) hk (.p _ _ (.bool _));rcases hk with⟨rfl,hk⟩|⟨rfl,hk⟩;exact Yields.same (by simp[execOp,ho,hex,ey,hg,binOp,hq]) hk (.p _ _ (.bool _));exact Yields.same (by simp[execOp,ho,hex,ey,hg,binOp,hq]) hk (.p _ _ (.bool _))
 unfold AR at h;split at h;rename_i ht;have hm:=(E.C.ok ht).iface;have ajn:aO G w v (.p .sX)->v=.nilIface:=λh=>by
  cases h with
  |p _ _ h=>cases h;rfl
 have ajT:∀{u:TypeId}{z:AV},aO G w v (.p (.iface u z))->∃u x,v=.iface u x:=λh=>by
  cases h with
  |p _ _ h=>cases h;simp_all
 grind;simp_all;simp_all
theorem OG {P:Program}{w:World}{t e:TypeId}(a:Option Addr)(n c:Nat)(h:P.underlying t=some (.slice e)):(Op.equal t (.slice a n c) (.slice none 0 0)).run P w=.ok a.isNone w:=by
 have :∀d,(Op.equalIn (d+1) t (.slice a n c) (.slice none 0 0)).run P w=.ok a.isNone w:=λd=>by cases a<;>simp[Op.equalIn,run_underlying h]
 exact this 9999
theorem OH (hs:bp E G S a w){op:BinOp}{t yt:TypeId}{x y:Operand}(ho:o.op=.binOp op t x y yt)(hy:Mk y=true)(h:Ml E.C t op (S.val x) K):Yields E G a w o K:=by
 have hx:=aO.val hs x;generalize S.val x=vx at h hx;generalize hex:a.eval x=v at hx;unfold Mk at hy;split at hy;have ey:a.eval (.const (.slice none 0 0))=.slice none 0 0:=rfl;have key:∀(ad:Option Addr)(n c:Nat),v=.slice ad n c->(∃e,E.C.P.underlying t=some (.slice e))->((op=.eql/\K (.p (.bool ad.isNone)))\/(op=.neq/\K (.p (.bool (!ad.isNone)))))->Yields E G a w o K:=λad n c hv ⟨e,hm⟩ hk=>by
  subst hv;have hq:(Op.equal t (.slice ad n c) (.slice none 0 0)).run E.C.P w=.ok ad.isNone w:=OG ad n c hm;have hg:(eqGuard op t x (.const (.slice none 0 0)) (.slice ad n c) (.slice none 0 0)).run E.C.P w=.ok () w:=by unfold eqGuard;split<;>simp
  rcases hk with⟨rfl,hk⟩|⟨rfl,hk⟩;exact Yields.same (by simp[execOp,ho,hex,ey,hg,binOp,hq]) hk (.p _ _ (.bool _));exact Yields.same (by simp[execOp,ho,hex,ey,hg,binOp,hq]) hk (.p _ _ (.bool _))
 unfold Ml at h;split at h;rename_i ht;have hm:=(E.C.ok ht).slice;split at h;obtain⟨n,c,b,rfl,-⟩:=hx.Gy;grind;split at h;simp_all;rename_i xs hxs;obtain⟨ad,c,rfl,-,hne⟩:=(hx.elems hxs).kP;have hsome:xs≠[]->ad.isNone=false:=by grind
 split at h;exact key _ _ _ rfl ⟨_,hm⟩ (.inl ⟨rfl,h.out _ hsome⟩);exact key _ _ _ rfl ⟨_,hm⟩ (.inr ⟨rfl,h.out _ λhn=>by simp_all⟩);simp_all;simp_all;simp_all
theorem OI (hs:bp E G S a w){op:BinOp}{t yt:TypeId}{x y:Operand}{vx vy:FV}(ho:o.op=.binOp op t x y yt)(hx:aO G w (a.eval x) vx)(hy:aO G w (a.eval y) vy)(h:DX E.C t op vx vy K):Yields E G a w o K:=by
 unfold DX at h;split at h;simp_all;rename_i i hi;have hok:=E.C.ok hi;split at h;rename_i xs ys hagg hxs hys;obtain⟨L,hL,hg,f1,f2,h⟩:=h;have ha:gM E.C.P t=true:=by rw[hok.gM,hagg]
 have e1:a.eval x=tv true xs:=sO (hx.eW hxs) (agg:=true) (L:=L) f1;have e2:a.eval y=tv true ys:=sO (hy.eW hys) (agg:=true) (L:=L) f2;have hq:(Op.equal t (tv true xs) (tv true ys)).run E.C.P w=.ok (sameAs xs ys) w:=by have :=(Ef (P:=E.C.P) 40).1 t L Op.maxDepth w xs ys dD hL f1 f2;rw[ha]at this;exact this
 have hg':(eqGuard op t x y (tv true xs) (tv true ys)).run E.C.P w=.ok () w:=by unfold eqGuard;simp only[tv];split<;>simp[hg]
 simp only[tv]at e1 e2 hq hg';cases op<;>simp only at h<;>first|exact h.elim|(exact Yields.same (by simp[execOp,ho,e1,e2,hg',binOp,hq];rfl) (h.out _ rfl) (.p _ _ (.bool _)))|(exact Yields.same (by simp[execOp,ho,e1,e2,hg',binOp,hq]) (h.out _ rfl) (.p _ _ (.bool _)))
 simp_all
theorem afg (k:IntKind)(x y:Int):Op.intBits .and k x y=pure (.int k (xC .and k x y)):=rfl
theorem ahd (k:IntKind)(x y:Int):Op.intBits .or k x y=pure (.int k (xC .or k x y)):=rfl
theorem YC (k:IntKind)(x y:Int):Op.intBits .xor k x y=pure (.int k (xC .xor k x y)):=rfl
theorem VO (k:IntKind)(x y:Int):Op.intBits .andNot k x y=pure (.int k (xC .andNot k x y)):=rfl
theorem RN (hs:bp E G S a w){op:BinOp}{t yt:TypeId}{x y:Operand}(ho:o.op=.binOp op t x y yt)(h:Hf E.C t op (S.val x) (S.val y) K):Yields E G a w o K:=by
 have hx:=aO.val hs x;have hy:=aO.val hs y;generalize S.val x=vx at h hx;generalize S.val y=vy at h hy;unfold Hf at h;split at h
 ·rename_i k m k' n;split at h;have ex:=hx.fL;have ey:=hy.fL;have hg:(eqGuard op t x y (.int k m) (.int k' n)).run E.C.P w=.ok () w:=by unfold eqGuard;split<;>simp
  cases op<;>simp only[BN]at h<;>first
   |exact h.elim
   |
    (
     obtain⟨hn,c,rfl,h⟩:=h;have hn':¬n<0:=oO
     exact Yields.same (by simp[execOp,ho,ex,ey,hg,binOp,Op.shift,hn']) h (.p _ _ (.int _ _)))
  rename_i hns;split at h;case h_2=>simp_all
  rename_i hk;obtain rfl:=qR hk;have ex:=hx.fL;have ey:=hy.fL;have hg:(eqGuard op t x y (.int k m) (.int k n)).run E.C.P w=.ok () w:=by unfold eqGuard;split<;>simp
  cases op<;>simp only[Of]at h<;>first|exact h.elim|(obtain⟨c,rfl,h⟩:=h;exact Yields.same (by simp[execOp,ho,ex,ey,hg,binOp,Op.intArith,afg,ahd,YC,VO]) h (.p _ _ (.int _ _)))|(obtain⟨hn,c,rfl,h⟩:=h;exact Yields.same (by simp[execOp,ho,ex,ey,hg,binOp,Op.intDiv,hn]) h (.p _ _ (.int _ _)))|(exact Yields.same (by simp[execOp,ho,ex,ey,hg,binOp,Op.intCmp]) (h.out _ rfl) (.p _ _ (.bool _)))
 rename_i s r;have ex:=hx.jL;have ey:=hy.jL;have hg:(eqGuard op t x y (.string ⟨s.toArray⟩) (.string ⟨r.toArray⟩)).run E.C.P w=.ok () w:=by unfold eqGuard;split<;>simp
 have l1:(⟨s.toArray⟩:ByteArray).toList=s:=by simp[ByteArray.toList_eq]
 have l2:(⟨r.toArray⟩:ByteArray).toList=r:=by simp[ByteArray.toList_eq]
 cases op<;>simp only[Og]at h<;>first
  |exact h.elim
  |
   (
    obtain⟨hlen,h⟩:=h;have hlen':¬(((⟨s.toArray⟩:ByteArray).size+(⟨r.toArray⟩:ByteArray).size:Nat):Int)>IntKind.i64.max:=by
     have h1:(⟨s.toArray⟩:ByteArray).size=s.length:=by simp[ByteArray.size]
     have h2:(⟨r.toArray⟩:ByteArray).size=r.length:=by simp[ByteArray.size]
     rw[h1,h2];simp only[IntKind.max,IntKind.signed,IntKind.bits,if_true];omega
    have ajV:(⟨s.toArray⟩:ByteArray)++⟨r.toArray⟩=⟨(s++r).toArray⟩:=by apply ByteArray.ext;simp
    exact Yields.same (v:=.string ⟨(s++r).toArray⟩) (by simp only[execOp,ho,ex,ey,hg,binOp,Op.stringOp,hlen',ajV,Sem.run_bind,Result.andThen_ok,if_false,Sem.run_pure]) h (.p _ _ (.str _)))
  |(exact Yields.same (by simp[execOp,ho,ex,ey,hg,binOp,Op.stringOp,l1,l2];rfl) (h.out _ rfl) (.p _ _ (.bool _)))
  |(exact Yields.same (by simp[execOp,ho,ex,ey,hg,binOp,Op.stringOp,l1,l2]) (h.out _ rfl) (.p _ _ (.bool _)))
 rename_i ob off;generalize hex:a.eval x=vx at hx;generalize hey:a.eval y=vy at hy;obtain rfl:=hy.HB;cases hx with
 |ptr _ _ b fJ=>split at h;rename_i ht;exact qn ho hex hey (oW _ (E.C.ok ht).ptr) (.inl ⟨rfl,h⟩);rename_i ht;exact qn ho hex hey (oW _ (E.C.ok ht).ptr) (.inr ⟨rfl,h⟩);simp_all
 have hex:=hx.HB;have hey:=hy.HB;split at h;rename_i ht;exact qn ho hex hey (oW _ (E.C.ok ht).ptr) (.inl ⟨rfl,h⟩);rename_i ht;exact qn ho hex hey (oW _ (E.C.ok ht).ptr) (.inr ⟨rfl,h⟩);simp_all;rename_i ob off ob' off';generalize hex:a.eval x=vx at hx;generalize hey:a.eval y=vy at hy;cases hx with
 |ptr _ _ b fJ=>
  cases hy with
  |ptr _ _ b' Ar=>split at h;rename_i h1 h2 ht;obtain rfl:=aK h1;obtain rfl:=aK h2;rw[fJ]at Ar;obtain rfl:=ak Ar;split at h;rename_i he;exact qn ho hex hey (xd _ (E.C.ok ht).ptr (E.C.ok he)) (.inl ⟨rfl,h⟩);simp_all;rename_i h1 h2 ht;obtain rfl:=aK h1;obtain rfl:=aK h2;rw[fJ]at Ar;obtain rfl:=ak Ar;split at h;rename_i he;exact qn ho hex hey (xd _ (E.C.ok ht).ptr (E.C.ok he)) (.inr ⟨rfl,h⟩);simp_all;simp_all
 rename_i b c;have ex:=hx.mN;have ey:=hy.mN;have hg:(eqGuard op t x y (.bool b) (.bool c)).run E.C.P w=.ok () w:=by unfold eqGuard;split<;>simp
 split at h;rename_i ht;have hu:=(E.C.ok ht).bool;have hq:(Op.equal t (.bool b) (.bool c)).run E.C.P w=.ok (b==c) w:=run_equal_bool w t b c hu;cases op<;>simp only at h<;>first|exact h.elim|(exact Yields.same (by simp[execOp,ho,ex,ey,hg,binOp,hq];rfl) (h.out _ rfl) (.p _ _ (.bool _)))|(exact Yields.same (by simp[execOp,ho,ex,ey,hg,binOp,hq]) (h.out _ rfl) (.p _ _ (.bool _)))
 simp_all;exact OI hs ho hx hy h
theorem HC (hs:bp E G S a w){t:TypeId}{pv:Value}{vx:FV}(hne:∀o b off,vx≠.gB o b off)(hx:aO G w pv vx)(h:mI E.C S.aD t vx K):∃ad v x,pv=.pointer (some ad)/\(loadVar t ad).run E.C.P w=.ok v w/\K x/\aO G w v x:=by
 unfold mI at h;split at h;simp_all;rename_i i hi;have hok:=E.C.ok hi;split at h;rename_i ob off;obtain⟨b,hv,fJ⟩:=hx.og;split at h;simp_all;rename_i cells hcells;obtain⟨b',hb',hc⟩:=hs.aD _ _ hcells;obtain rfl:b'=b:=by simp_all
 split at h;rename_i hagg;split at h;simp_all;rename_i cs hcs;rw[mL]at hcs;obtain⟨rfl,hle⟩:=vL hcs;rw[eo]at hle;have uJ:∀j,j<i.size->∃c x,w.cell? ⟨b',off+j,none⟩=some c/\cells[off+j]?=some x/\aO G w c x:=by grind
 let f:Nat->Value:=λj=>(w.cell? ⟨b',off+j,none⟩).getD undef;have hf:∀j,j<i.size->w.cell? ((⟨b',off,none⟩:Addr).add j)=some (f j):=λj hj=>by obtain⟨c,x,h1,-⟩:=uJ j hj;rw[Addr.add_lit];grind
 have hrun:=run_loadCells (P:=E.C.P) w ⟨b',off,none⟩ i.size f hf;refine⟨_,.agg ((List.range i.size).map f).toArray,_,hv,by simp[loadVar,hok.isAgg,hagg,hok.sizeOf,hrun],h,?_⟩;refine .agg _ _ (by simp_all) λj c x hj hx=>?_;grind;rename_i hagg;split at h;simp_all;rename_i y ys hys;have hy:=lY hys;obtain⟨c,h1,h2⟩:=hc off y hy;exact⟨_,_,_,hv,by simp[loadVar,hok.isAgg,hagg,h1],h,h2⟩;rename_i xs;obtain⟨b,off,hv,hc⟩:=hx.plain.Ce;split at h;rename_i hagg;split at h;simp_all;rename_i cs hcs;obtain⟨rfl,hle⟩:=AW hcs;have uJ:∀j,j<i.size->∃c x,w.cell? ⟨b,off+j,none⟩=some c/\xs[j]?=some x/\x.one=true/\dh G.bh w c x:=λj hj=>by
  have hl:j<xs.length:=oO
  obtain⟨c,h0,h1,-,h2⟩:=hc j _ (an hl);simp_all
 let f:Nat->Value:=λj=>(w.cell? ⟨b,off+j,none⟩).getD undef;have hf:∀j,j<i.size->w.cell? ((⟨b,off,none⟩:Addr).add j)=some (f j):=λj hj=>by obtain⟨c,x,h1,-⟩:=uJ j hj;rw[Addr.add_lit];grind
 have hrun:=run_loadCells (P:=E.C.P) w ⟨b,off,none⟩ i.size f hf;refine⟨_,.agg ((List.range i.size).map f).toArray,_,hv,by simp[loadVar,hok.isAgg,hagg,hok.sizeOf,hrun],h,?_⟩;refine .p _ _ (.agg _ _ (by simp_all) (λx hx=>?_) λj c x hj hx=>?_);obtain⟨j,hj⟩:=List.mem_iff_getElem?.1 hx;grind;grind;rename_i hagg;split at h;simp_all;rename_i y ys;obtain⟨c,h0,h1,-,h2⟩:=hc 0 y rfl;exact⟨_,_,_,hv,by simp at h1;simp[loadVar,hok.isAgg,hagg,h1],h,.p _ _ h2⟩;simp_all;simp_all
theorem aO.xT {v:Value}{o base off:Nat}(h:aO G w v (.gB o base off)):aO G w v (.ptr o (base+off)):=by
 cases h with
 |gB _ _ _ b h=>exact .ptr o (base+off) b h
theorem OJ {A ys B:List FV}{base off:Nat}(hA:A.length=base)(h:off<=ys.length):(A++(ys++B)).drop (base+off)=ys.drop off++B:=by rw[List.drop_append,hA,show base+off-base=off by omega,Cf (show A.length<=base+off by omega),dS,Cg h]
theorem YD {n:Nat}{xs:List FV}(h:n<=xs.length):takeN n xs=some (xs.take n):=by
 induction n generalizing xs with
 |zero=>rfl
 |succ n ih=>
  cases xs with
  |nil=>grind
  |cons x xs=>simp only[takeN,ih (by simpa using h),Ch]
theorem KG (hs:bp E G S a w){t:TypeId}{pv:Value}{vx:FV}(hx:aO G w pv vx)(h:mI E.C S.aD t vx K):∃ad v x,pv=.pointer (some ad)/\(loadVar t ad).run E.C.P w=.ok v w/\K x/\aO G w v x:=by
 by_cases hne:∀o b off,vx≠.gB o b off;exact HC hs hne hx h;have :∃o b off,vx=.gB o b off:=by cases vx<;>first|exact⟨_,_,_,rfl⟩|exact absurd (λ_ _ _ e=>by cases e) hne
 obtain⟨o,base,off,rfl⟩:=this;refine HC hs (λ_ _ _ e=>by grind) hx.xT ?_;unfold mI at h⊢;split at h;omega;rename_i i hi;simp only at h⊢;split at h;omega;rename_i cells hc;obtain⟨A,ys,B,hcells,hA,h⟩:=h;split at h;rename_i hagg;split at h;simp_all;rename_i cs hcs;rw[mL]at hcs⊢;obtain⟨rfl,hle⟩:=vL hcs;rw[eo]at hle;have :takeN i.size ((A++(ys++B)).drop (base+off))=some ((ys.drop off).take i.size):=by
  by_cases hl:off<=ys.length;rw[OJ hA hl,YD (by grind),rS (by simp_all)];have h0:i.size=0:=oO
  rw[h0];rfl
 simp_all;rename_i hagg;split at h;simp_all;rename_i y zs hzs;rw[mL]at hzs⊢;have hl:off<=ys.length:=by have :=aV List.length hzs;simp at this;omega
 rw[hcells,OJ hA hl,hzs];grind
theorem OL (hs:bp E G S a w){t:TypeId}{x:Operand}(ho:o.op=.load t x)(h:mI E.C S.aD t (S.val x) K):Yields E G a w o K:=by obtain⟨ad,v,y,h1,h2,h3,h4⟩:=KG hs (aO.val hs x) h;exact Yields.same (by simp[execOp,ho,h1,Instr.loadAt,Instr.sureAddr,h2]) h3 h4
end
section
variable {E:Env}{G:aZ}{S:ag}{a:Act}{w:World}{o:Oper}{K:FV->Prop}
theorem OM (hs:bp E G S a w){c x y:Operand}(ho:o.op=.pick c x y)(h:match S.val c with|.p (.bool true)=>force (S.val x) K|.p (.bool false)=>force (S.val y) K|_=>False):Yields E G a w o K:=by have hc:=aO.val hs c;generalize S.val c=vc at h hc;split at h;rw[force_eq]at h;exact Yields.same (by simp[execOp,ho,hc.mN,asBool]) h (aO.val hs x);rw[force_eq]at h;exact Yields.same (by simp[execOp,ho,hc.mN,asBool]) h (aO.val hs y);simp_all
theorem ON (hs:bp E G S a w){op:UnOp}{t:TypeId}{x:Operand}(ho:o.op=.unOp op t x)(h:RA op (S.val x) K):Yields E G a w o K:=by
 have hx:=aO.val hs x;generalize S.val x=vx at h hx;have hd:(op=.not/\∃b,vx=.p (.bool b)/\(Al λt:Bool=>t=!b->K (.p (.bool t))))\/(op=.neg/\∃k n,vx=.p (.int k n)/\∃c,k.wrap (0-n)=c/\K (.p (.int k c)))\/(op=.xor/\∃k n,vx=.p (.int k n)/\∃c,xC .xor k (match k.signed with|true=>-1|false=>k.max) n=c/\K (.p (.int k c))):=by unfold RA at h;split at h;simp_all;grind;grind;simp_all
 rcases hd with⟨rfl,b,rfl,h⟩|⟨rfl,k,n,rfl,c,rfl,h⟩|⟨rfl,k,n,rfl,c,rfl,h⟩;have ex:=hx.mN;exact Yields.same (v:=.bool !b) (by simp[execOp,ho,ex,Op.unary]) (h.out _ rfl) (.p _ _ (.bool _));have ex:=hx.fL;exact Yields.same (v:=.int k (k.wrap (0-n))) (by simp[execOp,ho,ex,Op.unary,Op.intArith]) h (.p _ _ (.int _ _));have ex:=hx.fL;refine Yields.same (v:=.int k (xC .xor k (match k.signed with|true=>-1|false=>k.max) n)) ?_ h (.p _ _ (.int _ _));have e:(if k.signed=true then(-1:Int)else k.max)=(match k.signed with|true=>-1|false=>k.max):=by cases k.signed<;>rfl
 simp[execOp,ho,ex,Op.unary,YC,e]
theorem foldl_push (bs:List UInt8):∀(r:ByteArray),(bs.map λb=>(b.toNat:Int)).foldl (λr n=>r.push (UInt8.ofNat n.toNat)) r=⟨r.data++bs.toArray⟩:=by
 induction bs with
 |nil=>simp_all
 |cons b bs ih=>simp_all
theorem HD (hs:bp E G S a w){src dst:TypeId}{x:Operand}(ho:o.op=.convert src dst x)(h:RB E.C src dst (S.val x) K):Yields E G a w o K:=by
 have hx:=aO.val hs x;generalize S.val x=vx at h hx;unfold RB at h;split at h;simp_all;rename_i a0 b0 sh z0 hi;obtain⟨d,hd,hsh⟩:=(E.C.ok hi).xS;split at h;rename_i hd';have hu:=(E.C.ok hd').int;split at h;have ex:=hx.fL;obtain⟨c,rfl,h⟩:=h;exact Yields.same (by simp[execOp,ho,ex,convert,run_underlying hd,run_underlying hu,Conv.intToInt]) h (.p _ _ (.int _ _));simp_all;rename_i hd';have hu:=(E.C.ok hd').str;split at h;have ex:=hx.jL;exact Yields.same (by simp[execOp,ho,ex,convert,run_underlying hd,run_underlying hu]) h (.p _ _ (.str _));have ex:=hx.fL;obtain⟨c,rfl,hc,h⟩:=h;have acj:Utf8.encode (c.toNat:Int)=⟨#[c]⟩:=by
  have hv:Utf8.valid (c.toNat:Int)=true:=by simp[Utf8.valid];omega
  unfold Utf8.encode;simp only[hv,if_true,oZ,hc];simp
 refine Yields.same (v:=.string ⟨[c].toArray⟩) ?_ h (.p _ _ (.str _));simp[execOp,ho,ex,convert,run_underlying hd,run_underlying hu,Conv.intToString,acj];unfold Um at h;split at h;rename_i e xs hxs;split at h;rename_i by0 z1 he;obtain⟨bs,rfl,h⟩:=h;have hse:=(E.C.ok hi).slice;have hue:=(E.C.ok he).int;obtain⟨ad,c,hv,hcap,hne⟩:=(hx.elems hxs).kP;have hl:(bs.map λb=>[AV.int .u8 (b.toNat:Int)]).length=bs.length:=by simp
 rw[hl]at hv;refine Yields.same (v:=.string ⟨bs.toArray⟩) ?_ h (.p _ _ (.str _));have hrun:(Conv.bytesToString (.slice ad bs.length c)).run E.C.P w=.ok (.string ⟨bs.toArray⟩) w:=by
  by_cases h0:bs=[];subst h0;cases ad with
  |none=>rfl
  |some ad=>rfl
  obtain⟨b,off,bI,cell,rfl,g1,g2⟩:=hne (by simp_all);have hpos:0<bs.length:=vM.2 h0;have he1:bI=1:=(g1 0 [AV.int .u8 (bs[0].toNat:Int)] (by grind)).symm;subst he1;have hcell:∀q,q<bs.length->w.cell? ((⟨b,off,none⟩:Addr).add q)=some (((bs.map λb=>(b.toNat:Int))[q]?).elim undef (Value.int .u8)):=λq hq=>by obtain⟨-,g3,-,g4⟩:=g2 q [AV.int .u8 (bs[q].toNat:Int)] 0 _ (by grind) rfl;rw[Addr.add_lit,show off+q=off+q*1+0 from oO,g3];generalize cell q 0=cc at g4;cases g4;grind
  have :=run_loadCells (P:=E.C.P) w ⟨b,off,none⟩ bs.length _ hcell;have ahe:(loadCells ⟨b,off,none⟩ bs.length).run E.C.P w=.ok ((bs.map λb=>(b.toNat:Int)).map (Value.int .u8)).toArray w:=by rw[this];congr 1;apply kf.1;apply gU;intro q;by_cases hq:q<bs.length;grind;grind
  rw[run_bytesToString w _ _ _ _ ahe,foldl_push];simp
 simp[execOp,ho,hv,run_convert_bytes_string w src dst e ad bs.length c hse hue hu,hrun];simp_all;simp_all;simp_all
theorem xU (hs:bp E G S a w){t:TypeId}{x:Operand}(ho:o.op=.makeInterface t x)(h:match bK E.C.jh t with
 |some ⟨_,_,.iface,_⟩=>False
 |some _=>match(S.val x).eW with|some y=>K (.p (.iface t y))|none=>False
 |none=>False):Yields E G a w o K:=by
 have hx:=aO.val hs x;generalize S.val x=vx at h hx;split at h;simp_all;rename_i i hne hi;obtain⟨d,hd,hsh⟩:=(E.C.ok hi).xS;split at h;rename_i y hy;have hr:=hx.eW hy;refine Yields.same (v:=.iface t (a.eval x)) ?_ h (.p _ _ (.iface _ _ _ hr));cases d<;>first|(simp[execOp,ho,Instr.makeInterface,run_underlying hd];done)|(exfalso;obtain⟨s,b,sh,z⟩:=i;simp only[shapeOf]at hsh;simp_all)
 simp_all;simp_all
theorem xg (hs:bp E G S a w){fn:Fn}{first captured:Array Operand}(ho:o.op=.makeFunc fn first captured)(h:K (.fn fn (first.toList.map S.val) (captured.toList.map S.val))):Yields E G a w o K:=by
 refine Yields.same (v:=.func fn (first.toList.map a.eval).toArray (captured.toList.map a.eval).toArray) ?_ h (.fn fn _ _ _ _ (by simp) (by simp) (λi c x hc hx=>?_) (λi c x hc hx=>?_));simp[execOp,ho,Instr.makeFunc,<-Ci];rw[aJ]at hc hx;cases h0:first.toList[i]?with
 |none=>simp_all
 |some y=>simp[h0]at hc hx;subst hc;subst hx;exact aO.val hs y
 rw[aJ]at hc hx;cases h0:captured.toList[i]?with
 |none=>simp_all
 |some y=>simp[h0]at hc hx;subst hc;subst hx;exact aO.val hs y
theorem Ge (hs:bp E G S a w){x:Operand}(ho:o.op=.nilCheck x)(h:match S.val x with|.ptr b off=>K (.ptr b off)|.p (.imp xs)=>K (.p (.imp xs))|.gB o base off=>K (.gB o base off)|.p (.fn (.func f) a b)=>K (.p (.fn (.func f) a b))|.fn (.func f) a b=>K (.fn (.func f) a b)|_=>False):Yields E G a w o K:=by have hx:=aO.val hs x;generalize S.val x=vx at h hx;split at h;obtain⟨b,hv,-⟩:=hx.og;exact Yields.same (by simp[execOp,ho,hv]) h (hv▸hx);obtain⟨b,off,hv,-⟩:=hx.plain.Ce;exact Yields.same (by simp[execOp,ho,hv]) h (hv▸hx);obtain⟨b,hv,-⟩:=hx.xT.og;exact Yields.same (by simp[execOp,ho,hv]) h (hv▸hx);have h1:=hx.plain;generalize hv:a.eval x=v at hx h1;cases h1;exact Yields.same (by simp[execOp,ho,hv]) h hx;generalize hv:a.eval x=v at hx;have hx':=hx;cases hx';exact Yields.same (by simp[execOp,ho,hv]) h hx;simp_all
theorem th {P:Program}{w:World}{b off:Nat}{g:Field}{n:Nat}(h:(Go.sizeOf g.type).run P w=.ok n w)(hn:n≠0):(fieldPlace ⟨b,off,none⟩ g).run P w=.ok ⟨b,off+g.offset,none⟩ w:=by simp[fieldPlace,h,hn,Addr.add_lit]
theorem Eh (hs:bp E G S a w){s:TypeId}{x:Operand}{f:Nat}(ho:o.op=.fieldAddr s x f)(h:mJ E.C s (S.val x) f K):Yields E G a w o K:=by have hx:=aO.val hs x;generalize S.val x=vx at h hx;unfold mJ at h;split at h;rename_i hi;split at h;simp_all;rename_i off' t r hd;obtain⟨gs,g,h1,h2,h3,h4⟩:=(E.C.ok hi).field hd;split at h;simp_all;rename_i j hj;split at h;simp_all;rename_i n hn;have hsz:=(E.C.ok hj).sizeOf w;rw[<-h4]at hsz;split at h;rename_i b0 off;obtain⟨b,hv,hl⟩:=hx.og;refine Yields.same (v:=.pointer (some ⟨b,off+off',none⟩)) ?_ h (.ptr _ _ _ hl);simp[execOp,ho,hv,Instr.fieldAt,run_underlying h1,h2,Instr.sureAddr,th hsz oO,h3];rename_i xs;obtain⟨b,off,hv,hc⟩:=hx.plain.Ce;refine Yields.same (v:=.pointer (some ⟨b,off+off',none⟩)) ?_ h (.p _ _ (dh.RM λk y hy=>?_));simp[execOp,ho,hv,Instr.fieldAt,run_underlying h1,h2,Instr.sureAddr,th hsz oO,h3];rw[mL,jV]at hy;grind;rename_i b0 base off;obtain⟨b,hv,hl⟩:=hx.xT.og;refine Yields.same (v:=.pointer (some ⟨b,base+(off+off'),none⟩)) ?_ h (.gB _ _ _ _ hl);simp[execOp,ho,hv,Instr.fieldAt,run_underlying h1,h2,Instr.sureAddr,th hsz oO,h3,fK];simp_all;simp_all
theorem Cj {P:Program}{w:World}{t:TypeId}{i:jE}(hok:fO P t i)(hagg:i.shape.isAgg=true)(cs:Array Value)(off:Nat):(part t cs off).run P w=.ok (.agg (cs.extract off (off+i.size))) w:=by simp[part,hok.isAgg,hagg,hok.sizeOf]
theorem Ck {P:Program}{w:World}{t:TypeId}{i:jE}(hok:fO P t i)(hagg:i.shape.isAgg=false)(cs:Array Value)(off:Nat)(v:Value)(hv:cs[off]?=some v):(part t cs off).run P w=.ok v w:=by simp[part,hok.isAgg,hagg,hv]
theorem My (hs:bp E G S a w){s:TypeId}{x:Operand}{f:Nat}(ho:o.op=.field s x f)(h:vA E.C s (S.val x) f K):Yields E G a w o K:=by
 have hx:=aO.val hs x;generalize S.val x=vx at h hx;unfold vA at h;split at h;rename_i hi;split at h;simp_all;rename_i off' t r hd;obtain⟨gs,g,h1,h2,h3,h4⟩:=(E.C.ok hi).field hd;split at h;simp_all;rename_i j hj;have hok:=E.C.ok hj;subst h3;subst h4;split at h;rename_i xs;generalize hv:a.eval x=v at hx;cases hx with
 |agg cs xs hl hc=>
  split at h;rename_i hagg;split at h;rename_i ys hys;rw[mL]at hys;obtain⟨rfl,hle⟩:=vL hys;refine Yields.same (v:=.agg ((cs.drop g.offset).take j.size).toArray) ?_ h (.agg _ _ (by grind) λk c y hk hy=>?_);have e1:cs.toArray.extract g.offset (g.offset+j.size)=((cs.drop g.offset).take j.size).toArray:=by simp[vN,vO]
  simp[execOp,ho,hv,Instr.field,run_underlying h1,h2,asAgg,Cj hok hagg,e1];grind;simp_all;rename_i hagg;split at h;rename_i y ys hys;have hy:=lY hys;have hlt:g.offset<cs.length:=by rw[hl];exact(aG.1 hy).1
  refine Yields.same (v:=cs[g.offset]) ?_ h (hc _ _ _ (an hlt) hy);simp[execOp,ho,hv,Instr.field,run_underlying h1,h2,asAgg,Ck hok hagg cs.toArray g.offset cs[g.offset] (by simp_all)];simp_all
 rename_i xs;have hx:=hx.plain;generalize hv:a.eval x=v at hx;cases hx with
 |agg cs xs hl hone hc=>
  split at h;rename_i hagg;split at h;rename_i ys hys;rw[mL]at hys;obtain⟨rfl,hle⟩:=AW hys;refine Yields.same (v:=.agg ((cs.drop g.offset).take j.size).toArray) ?_ h (.p _ _ (.agg _ _ (by grind) (λz hz=>hone z (Cl (rT hz))) λk c y hk hy=>?_));have e1:cs.toArray.extract g.offset (g.offset+j.size)=((cs.drop g.offset).take j.size).toArray:=by simp[vN,vO]
  simp[execOp,ho,hv,Instr.field,run_underlying h1,h2,asAgg,Cj hok hagg,e1];grind;simp_all;rename_i hagg;split at h;rename_i y ys hys;have hy:=lY hys;have hlt:g.offset<cs.length:=by rw[hl];exact(aG.1 hy).1
  refine Yields.same (v:=cs[g.offset]) ?_ h (.p _ _ (hc _ _ _ (an hlt) hy));simp[execOp,ho,hv,Instr.field,run_underlying h1,h2,asAgg,Ck hok hagg cs.toArray g.offset cs[g.offset] (by simp_all)];simp_all
 simp_all;simp_all
theorem gF {P:Program}{w:World}(k:IntKind)(n:Int):(asIntOf (.int k n)).run P w=.ok (k,n) w:=rfl
theorem Ei (hs:bp E G S a w){t:TypeId}{x i:Operand}(ho:o.op=.indexAddr t x i)(h:jw E.C S.aD t (S.val x) (S.val i) K):Yields E G a w o K:=by
 have hx:=aO.val hs x;have hi:=aO.val hs i;generalize S.val x=vx at h hx;generalize S.val i=vi at h hi;unfold jw at h;split at h;rename_i k n;have ei:=hi.fL;split at h;rename_i e _ ht;have hu:=(E.C.ok ht).slice;split at h;simp_all;rename_i j hj;have hsz:=(E.C.ok hj).sizeOf w;split at h;rename_i ob T bI;split at h;rename_i cells hcells hbe;obtain⟨m,base,rfl,rfl,hle,h⟩:=h;have hbe:=aK hbe;generalize hv:a.eval x=v at hx;cases hx with
 |fT _ _ _ n c b h1 h2 h3 h4=>
  obtain⟨-,-,h5⟩:=hs.ck _ _ _ _ h1 h2;have h6:=h5 cells hcells;simp only at h6;have hlt:m<n:=by
   rw[h6]at hle;have :(m+1)*bI<=n*bI:=by rw[bC,jZ];exact hle
   exact Nat.le_of_mul_le_mul_right this h4
  refine Yields.same (v:=.pointer (some ⟨b,m*bI+0,none⟩)) ?_ h (.gB _ _ _ _ h1);have hin:(0:Int)<=(m:Int)/\(m:Int)<(n:Int):=⟨oO,oO⟩;simp[execOp,ho,ei,hv,Instr.indexAt,gF,run_underlying hu,hin,hsz,Addr.add_lit,hbe]
 simp_all;rename_i ob bx T bI;split at h;rename_i cells hcells hbe;obtain⟨m,base,rfl,rfl,hle,h⟩:=h;have hbe:=aK hbe;generalize hv:a.eval x=v at hx;cases hx with
 |sY _ _ _ _ n c b off h1 h2 h0 h3 h4=>
  obtain⟨-,-,h5⟩:=hs.ck _ _ _ _ h1 h2;have h6:=h5 cells hcells;simp only at h6;have hlt:bx+m<n:=by
   rw[h6]at hle;have :(bx+m+1)*bI<=n*bI:=by rw[bC (bx+m) 1,jZ];exact hle
   exact Nat.le_of_mul_le_mul_right this h4
  obtain rfl:=h0.2 oO;refine Yields.same (v:=.pointer (some ⟨b,(bx+m)*bI+0,none⟩)) ?_ h (.gB _ _ _ _ h1);have hin:(0:Int)<=(m:Int)/\(m:Int)<((n-bx:Nat):Int):=⟨oO,oO⟩;have amx:bx*bI+m*bI=(bx+m)*bI:=by rw[bC]
  simp[execOp,ho,ei,hv,Instr.indexAt,gF,run_underlying hu,hin,hsz,Addr.add_lit,hbe];simp_all
 simp_all;split at h;simp_all;rename_i xs hxs;obtain⟨h0,ys,hys,hlen,h⟩:=h;obtain⟨ad,c,hv,hcap,hne⟩:=(hx.elems hxs).kP;have hlt:n.toNat<xs.length:=(aG.1 hys).1;obtain⟨b,off,bI,cell,rfl,h1,h2⟩:=hne (by grind);have YE:bI=j.size:=(h1 _ _ hys).symm.trans hlen;refine Yields.same (v:=.pointer (some ⟨b,off+n.toNat*bI,none⟩)) ?_ h (.p _ _ (dh.RM λm y hy=>?_));have hin:0<=n/\n<(xs.length:Int):=⟨h0,oO⟩;simp[execOp,ho,ei,hv,Instr.indexAt,gF,run_underlying hu,hin,hsz,Addr.add_lit,YE];grind;rename_i len e _ ht;have hu:=(E.C.ok ht).array;split at h;simp_all;rename_i j hj;have hsz:=(E.C.ok hj).sizeOf w;obtain⟨m,rfl,hm,h⟩:=h;have hin:(0:Int)<=(m:Int)/\(m:Int)<(len:Int):=⟨oO,oO⟩;split at h;rename_i b0 off;obtain⟨b,hv,hl⟩:=hx.og;obtain⟨sym,h⟩:=h;cases sym with
 |true=>obtain⟨base,rfl,h⟩:=h;exact Yields.same (v:=.pointer (some ⟨b,off+m*j.size+0,none⟩)) (by simp[execOp,ho,ei,hv,Instr.indexAt,gF,run_underlying hu,Instr.sureAddr,hin,hsz,Addr.add_lit]) h (.gB _ _ _ _ hl)
 |false=>exact Yields.same (v:=.pointer (some ⟨b,off+m*j.size,none⟩)) (by simp[execOp,ho,ei,hv,Instr.indexAt,gF,run_underlying hu,Instr.sureAddr,hin,hsz,Addr.add_lit]) h (.ptr _ _ _ hl)
 rename_i b0 b1 off;obtain⟨b,hv,hl⟩:=hx.xT.og;obtain⟨base,rfl,h⟩:=h;refine Yields.same (v:=.pointer (some ⟨b,b1+(off+m*j.size)+0,none⟩)) ?_ h (.gB _ _ _ _ hl);simp[execOp,ho,ei,hv,Instr.indexAt,gF,run_underlying hu,Instr.sureAddr,hin,hsz,Addr.add_lit,fK];rename_i xs;obtain⟨b,off,hv,hc⟩:=hx.plain.Ce;obtain⟨ys,rfl,h⟩:=h;refine Yields.same (v:=.pointer (some ⟨b,off+m*j.size,none⟩)) ?_ h (.p _ _ (dh.RM λk y hy=>?_));simp[execOp,ho,ei,hv,Instr.indexAt,gF,run_underlying hu,Instr.sureAddr,hin,hsz,Addr.add_lit];rw[mL,jV]at hy;grind;simp_all;simp_all;simp_all
theorem Mz (hs:bp E G S a w){t:TypeId}{x i:Operand}(ho:o.op=.index t x i)(h:vB E.C t (S.val x) (S.val i) K):Yields E G a w o K:=by
 have hx:=aO.val hs x;have hi:=aO.val hs i;generalize S.val x=vx at h hx;generalize S.val i=vi at h hi;unfold vB at h;split at h;rename_i k n;have ei:=hi.fL;split at h;rename_i ht;have hu:=(E.C.ok ht).str;split at h;rename_i s;have ex:=hx.jL;obtain⟨h0,c,hc,h⟩:=h;have hlt:=(aG.1 hc).1;have hg:(⟨s.toArray⟩:ByteArray)[n.toNat]?=some c:=by
  have :n.toNat<(⟨s.toArray⟩:ByteArray).size:=by simpa[ByteArray.size]using hlt
  refine(getElem?_pos (⟨s.toArray⟩:ByteArray) n.toNat this).trans ?_;have h2:=aG.1 hc;simpa[ByteArray.getElem_eq_getElem_data]using h2.2
 exact Yields.same (v:=.int .u8 c.toNat) (by simp[execOp,ho,ei,ex,Instr.index,gF,run_underlying hu,h0,hg]) h (.p _ _ (.int _ _));simp_all;rename_i len e _ ht;have hu:=(E.C.ok ht).array;split at h;simp_all;rename_i j hj;have hok:=E.C.ok hj;split at h;rename_i hagg;obtain⟨m,rfl,hm,h⟩:=h;have h0:(0:Int)<=(m:Int):=oO
 split at h;rename_i xs;generalize hv:a.eval x=v at hx;cases hx with
 |agg cs xs hl hc=>
  split at h;rename_i ys hys;rw[mL]at hys;obtain⟨rfl,hle⟩:=vL hys;refine Yields.same (v:=.agg ((cs.drop (m*j.size)).take j.size).toArray) ?_ h (.agg _ _ (by grind) λk c y hk hy=>?_);have e1:cs.toArray.extract (m*j.size) (m*j.size+j.size)=((cs.drop (m*j.size)).take j.size).toArray:=by simp[vN,vO]
  simp[execOp,ho,hv,ei,Instr.index,gF,run_underlying hu,h0,hm,hok.sizeOf,Cj hok hagg,e1];grind;simp_all
 rename_i xs;have hx:=hx.plain;generalize hv:a.eval x=v at hx;cases hx with
 |agg cs xs hl hone hc=>
  split at h;rename_i ys hys;rw[mL]at hys;obtain⟨rfl,hle⟩:=AW hys;refine Yields.same (v:=.agg ((cs.drop (m*j.size)).take j.size).toArray) ?_ h (.p _ _ (.agg _ _ (by grind) (λz hz=>hone z (Cl (rT hz))) λk c y hk hy=>?_));have e1:cs.toArray.extract (m*j.size) (m*j.size+j.size)=((cs.drop (m*j.size)).take j.size).toArray:=by simp[vN,vO]
  simp[execOp,ho,hv,ei,Instr.index,gF,run_underlying hu,h0,hm,hok.sizeOf,Cj hok hagg,e1];grind;simp_all
 simp_all;rename_i hagg;obtain⟨m,rfl,hm,h⟩:=h;have h0:(0:Int)<=(m:Int):=oO
 have h1:(m:Int)<(len:Int):=oO
 split at h;rename_i xs;generalize hv:a.eval x=v at hx;cases hx with
 |agg cs xs hl hc=>
  split at h;rename_i y ys hys;have hy:=lY hys;have hlt:m*j.size<cs.length:=by rw[hl];exact(aG.1 hy).1
  refine Yields.same (v:=cs[m*j.size]) ?_ h (hc _ _ _ (an hlt) hy);simp[execOp,ho,hv,ei,Instr.index,gF,run_underlying hu,h0,hm,hok.sizeOf,Ck hok hagg cs.toArray (m*j.size) cs[m*j.size] (by simp_all)];simp_all
 rename_i xs;have hx:=hx.plain;generalize hv:a.eval x=v at hx;cases hx with
 |agg cs xs hl hone hc=>
  split at h;rename_i y ys hys;have hy:=lY hys;have hlt:m*j.size<cs.length:=by rw[hl];exact(aG.1 hy).1
  refine Yields.same (v:=cs[m*j.size]) ?_ h (.p _ _ (hc _ _ _ (an hlt) hy));simp[execOp,ho,hv,ei,Instr.index,gF,run_underlying hu,h0,hm,hok.sizeOf,Ck hok hagg cs.toArray (m*j.size) cs[m*j.size] (by simp_all)];simp_all
 simp_all;simp_all;simp_all
theorem HE (hs:bp E G S a w){x:Operand}{i:Nat}(ho:o.op=.extract x i)(h:match S.val x with
 |.eS xs=>match gb i xs with|y::_=>K y|[]=>False
 |.p (.eS xs)=>match gb i xs with|y::_=>K (.p y)|[]=>False
 |_=>False):Yields E G a w o K:=by
 have hx:=aO.val hs x;generalize S.val x=vx at h hx;split at h;generalize hv:a.eval x=v at hx;cases hx with
 |eS cs xs hl hc=>
  split at h;rename_i y ys hys;have hy:=lY hys;have hlt:i<cs.length:=by rw[hl];exact(aG.1 hy).1
  exact Yields.same (v:=cs[i]) (by simp[execOp,ho,hv,Instr.extract,hlt]) h (hc _ _ _ (an hlt) hy);simp_all
 have hx:=hx.plain;generalize hv:a.eval x=v at hx;cases hx with
 |eS cs xs hl hc=>
  split at h;rename_i y ys hys;have hy:=lY hys;have hlt:i<cs.length:=by rw[hl];exact(aG.1 hy).1
  exact Yields.same (v:=cs[i]) (by simp[execOp,ho,hv,Instr.extract,hlt]) h (.p _ _ (hc _ _ _ (an hlt) hy));simp_all
 simp_all
end
section
variable {E:Env}{G:aZ}{S:ag}{a:Act}{w:World}{o:Oper}{K:FV->Prop}
theorem oG (hs:bp E G S a w){x:Option Operand}{d:Nat}{K:Nat->Prop}(h:tN (x.map S.val) d K):∃m,K m/\((x=none/\m=d)\/∃y k,x=some y/\a.eval y=.int k m):=by
 cases x with
 |none=>exact⟨d,h,.inl ⟨rfl,rfl⟩⟩
 |some y=>have hy:=aO.val hs y;simp only[ek,tN]at h;generalize S.val y=vy at h hy;split at h;simp_all;rename_i k n heq;obtain rfl:=ak heq;obtain⟨m,rfl,h⟩:=h;exact⟨m,h,.inr ⟨y,k,rfl,hy.fL⟩⟩;simp_all
theorem mo {P:Program}{w:World}(isSlice:Bool)(len cap:Nat)(lo hi:Option Value)(l h:Nat)(hl:l<=h)(hh:h<=cap)(h1:(lo=none/\l=0)\/∃k:IntKind,lo=some (.int k l))(h2:(hi=none/\h=len)\/∃k:IntKind,hi=some (.int k h)):(Instr.sliceBounds isSlice len cap lo hi none).run P w=.ok (l,h,cap) w:=by
 have b1:∀(k:IntKind)(m y:Nat)(c:BoundsCode),m<=y->(Instr.sliceBound (.int k m) y c).run P w=.ok m w:=λk m y c hm=>by
  have :(0:Int)<=(m:Int)/\(m:Int)<=(y:Int):=oO
  simp[Instr.sliceBound,gF,this]
 rcases h2 with⟨rfl,rfl⟩|⟨k2,rfl⟩<;>rcases h1 with⟨rfl,rfl⟩|⟨k1,rfl⟩;rfl;simp[Instr.sliceBounds,b1 k1 l _ _ hl];simp[Instr.sliceBounds,b1 k2 h _ _ hh];simp[Instr.sliceBounds,b1 k2 h _ _ hh,b1 k1 l _ _ hl]
theorem lz {a:Act}{x:Option Operand}{m d:Nat}(h:(x=none/\m=d)\/∃y k,x=some y/\a.eval y=.int k m):(x.map a.eval=none/\m=d)\/∃k:IntKind,x.map a.eval=some (.int k m):=by grind
theorem As (s:List UInt8)(l h:Nat)(hh:h<=s.length):(⟨s.toArray⟩:ByteArray).extract l h=⟨((s.take h).drop l).toArray⟩:=by apply ByteArray.ext;rw[ByteArray.data_extract];grind
theorem MA (hs:bp E G S a w){t:TypeId}{x:Operand}{lo hi:Option Operand}(ho:o.op=.slice t x lo hi none)(h:Mm E.C t (S.val x) (lo.map S.val) (hi.map S.val) K):Yields E G a w o K:=by
 have hx:=aO.val hs x;generalize S.val x=vx at h hx;unfold Mm at h;split at h;rename_i ht;have hu:=(E.C.ok ht).str;split at h;rename_i s;have ex:=hx.jL;obtain⟨m,h,h2⟩:=oG hs h;obtain⟨l,⟨hl,hm,s',rfl,h⟩,h1⟩:=oG hs h;have hsz:(⟨s.toArray⟩:ByteArray).size=s.length:=by simp[ByteArray.size]
 have hb:=mo (P:=E.C.P) (w:=w) false s.length s.length _ _ l m hl hm (lz h1) (lz h2);refine Yields.same (v:=.string ⟨((s.take m).drop l).toArray⟩) ?_ h (.p _ _ (.str _));simp[execOp,ho,ex,Instr.sliceAt,run_underlying hu,Instr.slice,hsz,hb,As s l m hm];simp_all;rename_i e _ ht;have hu:=(E.C.ok ht).slice;split at h;simp_all;rename_i j hj;have hjs:=(E.C.ok hj).sizeOf w;split at h;simp_all;rename_i xs hxs;obtain⟨ad,c,hv,hcap,hne⟩:=(hx.elems hxs).kP;obtain⟨m,h,h2⟩:=oG hs h;obtain⟨l,⟨hl,hm,hall,s',rfl,h⟩,h1⟩:=oG hs h;have hb:=mo (P:=E.C.P) (w:=w) true xs.length c _ _ l m hl oO (lz h1) (lz h2);have hrun:(execOp a.eval o).run E.C.P w=.ok (.value (.slice (if c=l then ad else ad.map (·.add (l*j.size))) (m-l) (c-l))) w:=by simp[execOp,ho,hv,Instr.sliceAt,run_underlying hu,Instr.slice,hb,hjs]
 have hlen:((xs.take m).drop l).length=m-l:=by simp;omega
 refine Yields.same hrun h (.p _ _ ?_);by_cases hz:m-l=0;have :(xs.take m).drop l=[]:=by grind
 rw[this,hz];exact .Uj _ _;obtain⟨b,off,bI,cell,rfl,g1,g2⟩:=hne (by grind);have hpos:0<xs.length:=oO
 have YE:bI=j.size:=(g1 0 _ (an hpos)).symm.trans (hall _ (aT hpos));have mG:¬c=l:=oO
 rw[aa mG,<-hlen];simp only[ek,Addr.add_lit,<-YE];refine dh.OD oO (bI:=bI) (λi ys hys=>?_) (λi ys k y hys hy=>?_);grind;grind;rename_i len e _ ht;have hu:=(E.C.ok ht).array;split at h;simp_all;rename_i j hj;have hjs:=(E.C.ok hj).sizeOf w;split at h;rename_i xs;obtain⟨b,off,hv,hc⟩:=hx.plain.Ce;obtain⟨m,h,h2⟩:=oG hs h;obtain⟨l,⟨hl,hm,hj1,hxl,s',rfl,h⟩,h1⟩:=oG hs h;have hb:=mo (P:=E.C.P) (w:=w) false len len _ _ l m hl hm (lz h1) (lz h2);have hrun:(execOp a.eval o).run E.C.P w=.ok (.value (.slice (some (if len=l then⟨b,off,none⟩else(⟨b,off,none⟩:Addr).add (l*j.size))) (m-l) (len-l))) w:=by simp[execOp,ho,hv,Instr.sliceAt,Instr.sureAddr,run_underlying hu,hb,hjs]
 have hlen:(((xs.take m).drop l).map λx=>[x]).length=m-l:=by simp;omega
 refine Yields.same hrun h (.p _ _ ?_);by_cases hz:m-l=0;have :(((xs.take m).drop l).map λx=>[x])=[]:=by grind
 rw[this,hz];exact .Uj _ _;rw[aa oO,<-hlen];simp only[Addr.add_lit,hj1];refine dh.OD oO (bI:=1) (λi ys hys=>?_) (λi ys k y hys hy=>?_);grind;rw[aJ]at hys;cases hq:((xs.take m).drop l)[i]?with
 |none=>simp_all
 |some q=>simp[hq]at hys;subst hys;match k,hy with|0,hy=>grind
 simp_all;simp_all
theorem xV (hs:bp E G S a w){b:Builtin}{args:Array Operand}{types:Array TypeId}(ho:o.op=.call ⟨.builtin b,args,types⟩)(h:jG E.C S.aD b (args.toList.map S.val) types.toList K):Yields E G a w o K:=by
 have hx:=λx=>aO.val hs x;obtain⟨args⟩:=args;obtain⟨types⟩:=types;simp only at h;unfold jG at h;split at h;split at h;rename_i x t hargs;cases args with
 |nil=>simp_all
 |cons y args=>
  cases args with
  |cons z args=>simp_all
  |nil=>
   simp only[bw,fV,kg,and_true]at hargs;have hy:=hx y;rw[hargs]at hy;split at h;simp_all;rename_i ht;have hu:=(E.C.ok ht).str;split at h;rename_i s;have ey:=hy.jL;have hsz:(⟨s.toArray⟩:ByteArray).size=s.length:=by simp[ByteArray.size]
   exact Yields.same (v:=.int .i64 s.length) (by simp[execOp,ho,resolve,invoke,builtin,ey,Builtin.len_,run_underlying hu,hsz,goInt]) h (.p _ _ (.int _ _));simp_all;rename_i e _ ht;have hu:=(E.C.ok ht).slice;split at h;rename_i ob T bI;split at h;rename_i cells hcells;obtain⟨n,hn,h⟩:=h;generalize hv:a.eval y=v at hy;cases hy with
   |fT _ _ _ n' c b h1 h2 h3 h4=>obtain⟨-,-,h5⟩:=hs.ck _ _ _ _ h1 h2;have h6:=h5 cells hcells;simp only at h6;obtain rfl:n=n':=gx h4 (hn.symm.trans h6);exact Yields.same (v:=.int .i64 n) (by simp[execOp,ho,resolve,invoke,builtin,hv,Builtin.len_,run_underlying hu,goInt]) h (.p _ _ (.int _ _))
   simp_all;rename_i ob bx T bI;split at h;rename_i cells hcells;obtain⟨n,hn,h⟩:=h;generalize hv:a.eval y=v at hy;cases hy with
   |sY _ _ _ _ n' c b off h1 h2 h0 h3 h4=>
    obtain⟨-,-,h5⟩:=hs.ck _ _ _ _ h1 h2;have h6:=h5 cells hcells;simp only at h6;have e:bx+n=n':=gx h4 (hn.symm.trans h6);obtain rfl:n=n'-bx:=oO
    exact Yields.same (v:=.int .i64 ((n'-bx:Nat):Int)) (by simp[execOp,ho,resolve,invoke,builtin,hv,Builtin.len_,run_underlying hu,goInt]) h (.p _ _ (.int _ _))
   simp_all;split at h;rename_i xs hxs;obtain⟨ad,c,hv,hcap,hne⟩:=(hy.elems hxs).kP;exact Yields.same (v:=.int .i64 xs.length) (by simp[execOp,ho,resolve,invoke,builtin,hv,Builtin.len_,run_underlying hu,goInt]) h (.p _ _ (.int _ _));simp_all;simp_all
 simp_all
 ·split at h
  ·rename_i k m k' n hargs;cases args with
   |nil=>simp_all
   |cons y args=>
    cases args with
    |nil=>simp_all
    |cons z args=>
     cases args with
     |cons z args=>simp_all
     |nil=>
      simp only[bw,fV,kg,and_true]at hargs;have hy:=hx y;have hz:=hx z;rw[hargs.1]at hy;rw[hargs.2]at hz;have ey:=hy.fL;have ez:=hz.fL;split at h;case h_2=>simp_all
      rename_i hk;obtain rfl:=qR hk;obtain⟨c,rfl,h⟩:=h;exact Yields.same (v:=.int k (if n<m then n else m)) (by simp[execOp,ho,resolve,invoke,builtin,ey,ez,Builtin.min_,Builtin.min2]) h (.p _ _ (.int _ _))
  simp_all
 ·split at h
  ·rename_i k m k' n hargs;cases args with
   |nil=>simp_all
   |cons y args=>
    cases args with
    |nil=>simp_all
    |cons z args=>
     cases args with
     |cons z args=>simp_all
     |nil=>
      simp only[bw,fV,kg,and_true]at hargs;have hy:=hx y;have hz:=hx z;rw[hargs.1]at hy;rw[hargs.2]at hz;have ey:=hy.fL;have ez:=hz.fL;split at h;case h_2=>simp_all
      rename_i hk;obtain rfl:=qR hk;obtain⟨c,rfl,h⟩:=h;exact Yields.same (v:=.int k (if n>m then n else m)) (by simp[execOp,ho,resolve,invoke,builtin,ey,ez,Builtin.max_,Builtin.max2]) h (.p _ _ (.int _ _))
  simp_all
 simp_all
end
section
variable {E:Env}{G:aZ}{S:ag}{a:Act}{w:World}{o:Oper}{K:FV->Prop}
def xW (G:aZ)(w:World)(cs:List Value)(xs:List FV):Prop:=cs.length=xs.length/\∀(i:Nat)(c:Value)(x:FV),cs[i]?=some c->xs[i]?=some x->aO G w c x
theorem er (xs:List AV):aI xs=xs.map FV.p:=by
 induction xs with
 |nil=>rfl
 |cons x xs ih=>simp[aI,ih]
theorem qp {xs:List FV}:jQ xs=true↔∀x,x∈xs->x.one=true:=by
 induction xs with
 |nil=>decide
 |cons x xs ih=>simp only[jQ];grind
theorem qq {v:Value}{x:FV}(h:aO G w v x)(h1:jQ x.cells=true):xW G w v.cells.toList x.cells/\(∀u,u∈v.cells.toList->u.oneCell'=true):=by
 have one:∀{cs:List Value}{xs:List FV},xW G w cs xs->jQ xs=true->∀u,u∈cs->u.oneCell'=true:=λ{cs xs} hr ho u hu=>by
  obtain⟨i,hi⟩:=List.mem_iff_getElem?.1 hu;have hl:i<xs.length:=by rw[<-hr.1];exact(aG.1 hi).1
  exact(hr.2 i u _ hi (an hl)).YB (qp.1 ho _ (aT hl))
 have single:∀{v:Value}{x:FV},aO G w v x->v.cells=#[v]->xW G w v.cells.toList [x]:=λ{v x} h hv=>by rw[hv];refine⟨rfl,λi c y hc hy=>?_⟩;grind
 have key:xW G w v.cells.toList x.cells:=by
  cases h with
  |p v x h=>
   cases h with
   |agg cs xs hl ho hc=>
    simp only[FV.cells,Value.cells,er];refine⟨by grind,λi c y h2 h3=>?_⟩;rw[aJ]at h3;cases hx:xs[i]?with
    |none=>simp_all
    |some z=>simp[hx]at h3;subst h3;exact .p _ _ (hc i c z oO hx)
   |eS cs xs hl hc=>simp[FV.cells,jQ,FV.one,AV.one]at h1
   |_=>exact single (.p _ _ (by constructor<;>assumption)) rfl
  |agg cs xs hl hc=>exact⟨by simpa[Value.cells,FV.cells]using hl,λi c y h2 h3=>hc i c y (by simpa[Value.cells]using h2) h3⟩
  |eS cs xs hl hc=>simp[FV.cells,jQ,FV.one]at h1
  |dy v=>simp[FV.cells,jQ,FV.one]at h1
  |ptr o off b h=>exact single (.ptr o off b h) rfl
  |gi t T bI xs a c h3 h4=>exact single (.gi t T bI xs a c h3 h4) rfl
  |lM l k h=>exact single (.lM l k h) rfl
  |fT o T bI n c b q1 q2 q3 q4=>exact single (.fT o T bI n c b q1 q2 q3 q4) rfl
  |sY o x T bI n c b off q1 q2 q0 q3 q4=>exact single (.sY o x T bI n c b off q1 q2 q0 q3 q4) rfl
  |gB o base off b h=>exact single (.gB o base off b h) rfl
  |fu o b h=>exact single (.fu o b h) rfl
  |zo o b h=>exact single (.zo o b h) rfl
  |full xs a h=>exact single (.full xs a h) rfl
  |fn f fs cs first captured a b c d=>exact single (.fn f fs cs first captured a b c d) rfl
 grind
theorem KH {α:Type}{xs zs:List α}{n:Nat}{y:α}(h:JC xs n y=some zs):n<xs.length/\zs=xs.set n y:=by
 induction xs generalizing n zs with
 |nil=>simp[JC]at h
 |cons x xs ih=>
  cases n with
  |zero=>simp[JC]at h;grind
  |succ n=>simp only[JC]at h;grind
theorem qK {α:Type}{xs zs:List α}{n:Nat}{ys:List α}(h:gE xs n ys=some zs):zs.length=xs.length/\(ys≠[]->n+ys.length<=xs.length)/\∀(i:Nat),zs[i]?=if n<=i/\i<n+ys.length then ys[i-n]?else xs[i]?:=by
 induction ys generalizing xs n with
 |nil=>simp only[gE,bF]at h;grind
 |cons y ys ih=>simp only[gE]at h;split at h;rename_i us hu;obtain⟨h1,rfl⟩:=KH hu;obtain⟨h2,h3,h4⟩:=ih h;refine⟨by simp_all,λ_=>?_,λi=>?_⟩;grind;rw[h4 i];by_cases hi:i=n;subst hi;grind;by_cases hlt:n+1<=i/\i<n+1+ys.length;rw[af hlt,af (by grind)];grind;rw[aa hlt,aa (by grind),vP (cU hi)];simp_all
theorem HF (vs:List Value)(off:Nat):∀(k:Nat)(cs:Array Value),let r:=(vs.zipIdx k).foldl (λcs (c,j)=>cs.setIfInBounds (off+j) c) cs;r.size=cs.size/\∀i,i<cs.size->r[i]?=if off+k<=i/\i<off+k+vs.length then vs[i-(off+k)]?else cs[i]?:=by
 induction vs with
 |nil=>simp_all
 |cons v vs ih=>intro k cs;simp only[List.zipIdx_cons,fc];obtain⟨h1,h2⟩:=ih (k+1) (cs.setIfInBounds (off+k) v);refine⟨by simp_all,λi hi=>?_⟩;rw[h2 i (by simp_all)];by_cases he:i=off+k;grind;by_cases hlt:off+(k+1)<=i/\i<off+(k+1)+vs.length;grind;grind
theorem OO {place:Nat->Option (Nat×Nat)}{cells:Array Value}{i off size:Nat}{v:Value}{rest:List (Nat×Value)}(hp:place i=some (off,size))(hs:v.cells.size=size)(hb:off+size<=cells.size):Instr.fill place cells ((i,v)::rest)=Instr.fill place (v.cells.zipIdx.foldl (λcs (c,j)=>cs.setIfInBounds (off+j) c) cells) rest:=by
 have hne:¬(v.cells.size≠size\/off+v.cells.size>cells.size):=by rw[hs];omega
 simp only[Instr.fill,hp];grind
theorem KI {cells:Array Value}{xs zs:List FV}{off:Nat}{v:Value}{x:FV}(hr:xW G w cells.toList xs)(hv:aO G w v x)(h1:jQ x.cells=true)(AX:gE xs off x.cells=some zs)(hne:v.cells.size=0->off<=cells.size):off+v.cells.size<=cells.size/\xW G w (v.cells.zipIdx.foldl (λcs (c,j)=>cs.setIfInBounds (off+j) c) cells).toList zs:=by
 obtain⟨OP,hco⟩:=qq hv h1;obtain⟨g1,g2,g3⟩:=qK AX;have hlen:v.cells.size=x.cells.length:=by rw[<-OP.1];simp
 have hsz:cells.size=xs.length:=by rw[<-hr.1];simp
 have hb:off+v.cells.size<=cells.size:=by by_cases h0:x.cells=[];simp_all;simp_all
 refine⟨hb,?_⟩;have hf:=HF v.cells.toList off 0 cells;have he:v.cells.zipIdx.foldl (λcs (c,j)=>cs.setIfInBounds (off+j) c) cells=(v.cells.toList.zipIdx 0).foldl (λcs (c,j)=>cs.setIfInBounds (off+j) c) cells:=by rw[<-Array.foldl_toList,Array.toList_zipIdx]
 rw[he];obtain⟨f1,f2⟩:=hf;refine⟨by simp_all,λi c y hc hy=>?_⟩;have hi:i<cells.size:=by have :=(aG.1 hy).1;omega
 rw[g3 i]at hy;rw[rU,f2 i hi]at hc;simp only[vQ]at hc;by_cases hin:off<=i/\i<off+x.cells.length;rw[af hin]at hy;rw[af (by simp_all)]at hc;exact OP.2 _ _ _ hc hy;rw[aa hin]at hy;rw[aa (by simp_all)]at hc;exact hr.2 i c y (by simp_all) hy
theorem qt (zs:List Value):xW G w zs (zs.map FV.gT):=⟨by simp,λi c x hc hx=>by rw[aJ,hc]at hx;simp only[ek,bF]at hx;subst hx;exact tW _ _ _⟩
theorem Gf (hs:bp E G S a w){fs:List (Nat×TypeId)}{gs:Array Field}(hfs:fs=gs.toList.map λf=>(f.offset,f.type)):∀(parts:List (Nat×Operand))(cells:Array Value)(xs zs:List FV),xW G w cells.toList xs->mK fs E.C.jh S parts xs=some zs->∃cs,Instr.fill ((gs.map λf=>(f.offset,E.C.P.cellsOf f.type))[·]?) cells (parts.map λ(i,x)=>(i,a.eval x))=some cs/\xW G w cs.toList zs:=by
 intro parts;induction parts with
 |nil=>intro cells xs zs hr h;simp only[mK,bF]at h;exact⟨cells,rfl,h▸hr⟩
 |cons p parts ih=>
  obtain⟨i,x⟩:=p;intro cells xs zs hr h;simp only[mK]at h;split at h;grind;rename_i off t r hd;split at h;grind;rename_i j hj;split at h;rename_i hz hlen h1;split at h;grind;rename_i us hu;have hv:=aO.val hs x;have hlen':(S.val x).cells.length=j.size:=by simp_all
  have hgi:gs.toList[i]?.map (λf=>(f.offset,f.type))=some (off,t):=by have :=lY hd;rwa[hfs,aJ]at this
  obtain⟨inf,z,Cm,hsz,-⟩:=(E.C.ok hj).info';have hcs:E.C.P.cellsOf t=j.size:=by simp[Program.cellsOf,Cm,hsz]
  have hp:(gs.map λf=>(f.offset,E.C.P.cellsOf f.type))[i]?=some (off,j.size):=by
   rw[Array.getElem?_map];cases hg:gs[i]?with
   |none=>simp_all
   |some g=>simp_all
  have OP:=(qq hv h1).1;have hvs:(a.eval x).cells.size=j.size:=by rw[<-hlen',<-OP.1];simp
  have h0:j.size≠0:=by grind
  obtain⟨hb,hr'⟩:=KI hr hv h1 hu (λe=>oO);obtain⟨cs,h3,h4⟩:=ih _ _ _ hr' h;refine⟨cs,?_,h4⟩;rw[bw,OO hp hvs oO];omega;simp_all
theorem rC (hs:bp E G S a w){size:Nat}:∀(parts:List (Nat×Operand))(cells:Array Value)(xs zs:List FV),xW G w cells.toList xs->fR size S parts xs=some zs->∃cs,Instr.fill (λi=>some (i*size,size)) cells (parts.map λ(i,x)=>(i,a.eval x))=some cs/\xW G w cs.toList zs:=by
 intro parts;induction parts with
 |nil=>intro cells xs zs hr h;simp only[fR,bF]at h;exact⟨cells,rfl,h▸hr⟩
 |cons p parts ih=>
  obtain⟨i,x⟩:=p;intro cells xs zs hr h;simp only[fR]at h;split at h;rename_i hz hlen h1;split at h;grind;rename_i us hu;have hv:=aO.val hs x;have hlen':(S.val x).cells.length=size:=by simp_all
  have OP:=(qq hv h1).1;have hvs:(a.eval x).cells.size=size:=by rw[<-hlen',<-OP.1];simp
  have h0:size≠0:=by grind
  obtain⟨hb,hr'⟩:=KI hr hv h1 hu (λe=>oO);obtain⟨cs,h3,h4⟩:=ih _ _ _ hr' h;refine⟨cs,?_,h4⟩;rw[bw,OO rfl hvs oO];omega;simp_all
theorem fO.zeroV {P:Program}{t:TypeId}{i:jE}(h:fO P t i)(w:World):∃z,(zeroValue t).run P w=.ok z w/\z.cells.toList=i.zero:=by obtain⟨inf,z,h1,-,-,h2,h3⟩:=h.info';exact⟨z,by simp[zeroValue,run_typeInfo w h1,h2],h3⟩
theorem JK (C:Ctx){fs:List (Nat×TypeId)}{ps:List (Nat×Nat)}(h:placesOf C.jh fs=some ps):∀(gs:List Field),fs=gs.map (λf=>(f.offset,f.type))->gs.mapM (λf=>(C.P.info? f.type).map λi=>(f.offset,i.size))=some ps/\ps=gs.map λf=>(f.offset,C.P.cellsOf f.type):=by
 induction fs generalizing ps with
 |nil=>intro gs hg;simp only[placesOf,bF]at h;simp_all
 |cons p fs ih=>
  obtain⟨o,t⟩:=p;intro gs hg;cases gs with
  |nil=>simp_all
  |cons g gs=>simp only[bw,kg,Prod.mk.injEq]at hg;obtain⟨⟨rfl,rfl⟩,hg⟩:=hg;simp only[placesOf]at h;split at h;grind;rename_i j hj;split at h;grind;rename_i qs hqs;obtain rfl:=ak h;obtain⟨h1,h2⟩:=ih hqs gs hg;obtain⟨inf,z,Cm,hsz,-⟩:=(C.ok hj).info';simp only[List.mapM_cons,Cm,ek,h1];simp[hsz,h2,Program.cellsOf,Cm]
theorem MB (hs:bp E G S a w){t:TypeId}{parts:Array (Nat×Operand)}(ho:o.op=.build t parts)(h:Gt E.C S t parts.toList K):Yields E G a w o K:=by
 unfold Gt at h;split at h;rename_i fs zero ht;have hok:=E.C.ok ht;obtain⟨gs,hu,hfs⟩:=hok.struct;obtain⟨inf,z,Cm,-,-,hz,Gz⟩:=hok.info';split at h;simp_all;rename_i ps hps;split at h;rename_i cs hcs;rw[jS]at h;obtain⟨p1,p2⟩:=JK E.C hps gs.toList hfs;obtain⟨us,h3,h4⟩:=Gf hs hfs parts.toList z.cells _ _ (Gz▸qt _) hcs;have hb:E.C.P.built t (parts.toList.map λ(i,x)=>(i,a.eval x))=some us:=by unfold Program.built;simp only[Cm,hu,hz,p1];rw[p2];simpa using h3
 have hrun:=run_build (P:=E.C.P) w t (parts.map λ(i,x)=>(i,a.eval x)) us (by simp_all);exact Yields.same (by simp only[execOp,ho,Sem.run_bind,hrun,Result.andThen_ok];rfl) h (by simpa using aO.agg us.toList cs h4.1 h4.2);simp_all;rename_i n e zero ht;have hok:=E.C.ok ht;have hu:=hok.array;obtain⟨inf,z,Cm,-,-,hz,Gz⟩:=hok.info';split at h;simp_all;rename_i j hj;obtain⟨amz,z',Us,ajW,-⟩:=(E.C.ok hj).info';split at h;rename_i cs hcs;rw[jS]at h;obtain⟨us,h3,h4⟩:=rC hs parts.toList z.cells _ _ (Gz▸qt _) hcs;have hb:E.C.P.built t (parts.toList.map λ(i,x)=>(i,a.eval x))=some us:=by unfold Program.built;simp only[Cm,hu,hz,Us,ajW];exact h3
 have hrun:=run_build (P:=E.C.P) w t (parts.map λ(i,x)=>(i,a.eval x)) us (by simp_all);exact Yields.same (by simp only[execOp,ho,Sem.run_bind,hrun,Result.andThen_ok];rfl) h (by simpa using aO.agg us.toList cs h4.1 h4.2);simp_all;simp_all
theorem pe {α:Type}(xs:List α)(n:Nat):(nS n xs).length=n*xs.length/\∀i,i<n*xs.length->(nS n xs)[i]?=xs[i%xs.length]?:=by
 induction n with
 |zero=>simp[nS]
 |succ n ih=>refine⟨by simp[nS,ih.1,bC,nc],λi hi=>?_⟩;simp only[nS];by_cases h:i<xs.length;rw[cV h,lZ h];rw[eu oO,ih.2 _ (by grind)];congr 1;exact(Nat.mod_eq_sub_mod oO).symm
theorem HG {α β:Type}(f:α->β)(xs:List α)(n:Nat):nS n (xs.map f)=(nS n xs).map f:=by
 induction n with
 |zero=>rfl
 |succ n ih=>simp[nS,ih]
theorem VP {α:Type}(size:Nat):∀(n:Nat)(xs:List α),(chunk size n xs).length=n/\∀i zs,(chunk size n xs)[i]?=some zs->zs=(xs.drop (i*size)).take size:=by
 intro n;induction n with
 |zero=>intro xs;simp[chunk]
 |succ n ih=>
  intro xs;obtain⟨h1,h2⟩:=ih (xs.drop size);refine⟨by simp[chunk,h1],λi zs h=>?_⟩;cases i with
  |zero=>simp[chunk]at h;grind
  |succ i=>simp only[chunk,mb]at h;rw[h2 i zs h,vR,bC,jZ,nc]
theorem YG {x:FV}{y:AV}(h:x.one=true)(hy:x.eW=some y):y.one=true:=by
 cases x with
 |p z=>simp only[FV.eW,bF]at hy;subst hy;exact h
 |agg xs=>simp[FV.one]at h
 |eS xs=>simp[FV.one]at h
 |ptr o off=>simp[FV.eW]at hy
 |gi t T e xs=>simp only[FV.eW,bF]at hy;subst hy;rfl
 |lM l=>simp[FV.eW]at hy
 |fT o T e=>simp[FV.eW]at hy
 |sY o x T e=>simp[FV.eW]at hy
 |gB o b off=>simp[FV.eW]at hy
 |fu o=>simp[FV.eW]at hy
 |zo o=>simp[FV.eW]at hy
 |full xs=>simp only[FV.eW,bF]at hy;subst hy;rfl
 |fn f a b=>simp only[FV.eW]at hy;split at hy;split at hy;obtain rfl:=ak hy;rfl;simp_all;simp_all
 |dy=>simp[FV.one]at h
theorem xh (hs:bp E G S a w){t:TypeId}{len:Nat}{parts:Array (Nat×Operand)}(ho:o.op=.buildSlice t len parts)(h:lW E.C S t len parts.toList K):∃(xs:List (List AV)) (us:Array Value) (e:TypeId) (j:jE),(∃a b z,bK E.C.jh t=some ⟨a,b,.slice e,z⟩)/\bK E.C.jh e=some j/\K (.full xs)/\(execOp a.eval o).run E.C.P w=.ok (.value (.slice (some ⟨w.heap.size,0,none⟩) xs.length xs.length)) (w.alloc (.cells us e))/\(∀zs,zs∈xs->zs.length=j.size)/\dh (λb o=>G.bh b o\/(w.heap.size<=b/\b<(w.alloc (.cells us e)).heap.size/\o<xs.length*j.size)) (w.alloc (.cells us e)) (.slice (some ⟨w.heap.size,0,none⟩) xs.length xs.length) (.sl xs):=by
 unfold lW at h;split at h;rename_i e _ ht;have hu:=(E.C.ok ht).slice;split at h;simp_all;rename_i j hj;have hok:=E.C.ok hj;split at h;simp_all;rename_i hle;have hle':len*j.size<=1000000:=gW hle;split at h;rename_i cs hcs;split at h;simp_all;rename_i h1;split at h;rename_i ys hys;obtain⟨z,hzr,Gz⟩:=hok.zeroV w;have ajY:z.cells.size=j.size:=by rw[<-jj,Gz,hok.len]
 have hbase:∀zz:Array Value,(len*j.size=0\/zz=z.cells)->((Array.range (len*j.size)).map (zz[·%zz.size]!)).toList=nS len j.zero:=λzz hzz=>by obtain⟨r1,r2⟩:=pe j.zero len;rw[hok.len]at r1 r2;apply gU;grind
 have hrl:∀zz:Array Value,(len*j.size=0\/zz=z.cells)->xW G w ((Array.range (len*j.size)).map (zz[·%zz.size]!)).toList (nS len (j.zero.map FV.gT)):=λzz hzz=>by rw[hbase zz hzz,HG];exact qt _
 obtain⟨us,YH,nO⟩:∃us,(∀zz:Array Value,(len*j.size=0\/zz=z.cells)->Instr.fill (λi=>some (i*j.size,j.size)) ((Array.range (len*j.size)).map (zz[·%zz.size]!)) (parts.toList.map λ(i,x)=>(i,a.eval x))=some us)/\xW G w us.toList cs:=by obtain⟨us,h3,h4⟩:=rC hs parts.toList _ _ _ (hrl z.cells (.inr rfl)) hcs;grind
 have YI:¬len*j.size>2^24:=oO
 have hrun:(execOp a.eval o).run E.C.P w=.ok (.value (.slice (some ⟨w.heap.size,0,none⟩) len len)) (w.alloc (.cells us e)):=by
  by_cases h0:len*j.size=0;have h5:=YH #[] (.inl h0);have h5':Instr.fill (λi=>some (i*j.size,j.size)) #[] (List.map (λx=>(x.1,a.eval x.2)) parts.toList)=some us:=by
   have h6:(Array.range (len*j.size)).map ((#[]:Array Value)[·%(#[]:Array Value).size]!)=#[]:=by rw[h0];simp
   rw[h6]at h5;exact h5
  have hm0:∀f:Nat->Value,(Array.range 0).map f=#[]:=λf=>by simp
  simp only[execOp,ho,Instr.buildSlice,Sem.run_bind,run_underlying hu,Result.andThen_ok,hok.sizeOf,YI,if_false,h0,if_true,Sem.run_pure,ng];simp only[show¬(0>2^24)from oO,if_false,Sem.run_pure,Result.andThen_ok,hm0,h5'];rfl;have h5:=YH z.cells (.inr rfl);simp only[execOp,ho,Instr.buildSlice,Sem.run_bind,run_underlying hu,Result.andThen_ok,hok.sizeOf,YI,if_false,h0,Sem.run_pure,hzr,ng];simp only[h5];rfl
 obtain⟨y1,y2⟩:=FV.iV hys;have hlen:us.size=len*j.size:=by
  have h6:us.size=cs.length:=by rw[<-nO.1];simp
  have h7:∀(parts:List (Nat×Operand))(xs zs:List FV),fR j.size S parts xs=some zs->zs.length=xs.length:=by
   intro parts;induction parts with
   |nil=>intro xs zs h;simp only[fR,bF]at h;rw[h]
   |cons p parts ih=>obtain⟨i,x⟩:=p;intro xs zs h;simp only[fR]at h;split at h;split at h;grind;rename_i us YH;rw[ih _ _ h,(qK YH).1];simp_all
  rw[h6,h7 _ _ _ hcs,(pe _ _).1];simp[hok.len]
 have hal:Below w.heap.size w (w.alloc (.cells us e)):=(Below.refl _ _).alloc (av _) _;obtain⟨c1,c2⟩:=VP j.size len ys;have hcell:∀i,(w.alloc (.cells us e)).cell? ⟨w.heap.size,i,none⟩=us[i]?:=λi=>World.cell?_alloc_new w us e i;have ahg:∀(i:Nat)(zs:List AV),(chunk j.size len ys)[i]?=some zs->zs.length=j.size:=λi zs hzs=>by
  have hi:i<len:=by rw[<-c1];exact(aG.1 hzs).1
  rw[c2 i zs hzs,aN,eo,y1,<-nO.1,jj,hlen];have :(i+1)*j.size<=len*j.size:=ew _ hi;grind
 have amA:dh (λb o=>G.bh b o\/(w.heap.size<=b/\b<(w.alloc (.cells us e)).heap.size/\o<len*j.size)) (w.alloc (.cells us e)) (.slice (some ⟨w.heap.size,0,none⟩) (chunk j.size len ys).length len) (.sl (chunk j.size len ys)):=by
  refine dh.OD (bI:=j.size) oO ahg (λi zs k y hzs hy=>?_);have hi:i<len:=by rw[<-c1];exact(aG.1 hzs).1
  have hk:k<j.size:=by have h8:=(aG.1 hy).1;rw[c2 i zs hzs,aN]at h8;omega
  rw[c2 i zs hzs,Cn hk,jV]at hy;obtain⟨x,hx,hxy⟩:=y2 _ _ hy;have hlt:i*j.size+k<us.size:=by have h9:=(aG.1 hx).1;rw[<-jj,nO.1];exact h9
  have hr:=nO.2 (i*j.size+k) us[i*j.size+k] x (by simp_all) hx;have hxo:=qp.1 h1 x (bP hx);refine⟨us[i*j.size+k],YG hxo hxy,?_,.inr ⟨av _,by simp,oO⟩,?_⟩;simp_all;refine(hr.eW hxy).keep (λb o hi=>.inl hi) (λb o c hi hc=>?_) (BZ _ _ _);rw[World.cell?_alloc_lt _ _ _ (hs.fo b o hi)];omega
 refine⟨chunk j.size len ys,us,e,j,⟨_,_,_,ht⟩,hj,h,by simp_all,λzs hz=>?_,by simp_all⟩;obtain⟨q,hq⟩:=iL hz;grind;simp_all;simp_all;simp_all
theorem Co (hs:bp E G S a w){t:TypeId}{len:Nat}{parts:Array (Nat×Operand)}(ho:o.op=.buildSlice t len parts)(h:lW E.C S t len parts.toList K):Yields E G a w o K:=by obtain⟨xs,us,e,j,-,-,hK,hrun,-,hr⟩:=xh hs ho h;exact⟨_,_,_,hrun,hK,(Below.refl _ _).alloc (av _) _,.full xs _ (hr.keep (λb o h=>h.imp id λh=>⟨h.1,h.2.1⟩) (λ_ _ _ _ h=>h) (.refl _ _))⟩
end
theorem fO.map {P:Program}{t k e:TypeId}{a b:Nat}{z:List Value}(h:fO P t ⟨a,b,.map k e,z⟩):P.underlying t=some (.map k e):=by obtain⟨d,h1,h2⟩:=h.xS;cases d<;>simp[shapeOf]at h2;simp_all
theorem nh {α:Type}(l:List (AV×α)):iF l=l.map (·.1):=by
 induction l with
 |nil=>rfl
 |cons p l ih=>obtain⟨k,x⟩:=p;simp[iF,ih]
theorem zA {α:Type}(l:List (AV×α)):AS l=l.map (·.2):=by
 induction l with
 |nil=>rfl
 |cons p l ih=>obtain⟨k,x⟩:=p;simp[AS,ih]
theorem YK {α:Type}{ks:List AV}{xs:List α}(h:ks.length=xs.length):(qS ks xs).length=ks.length/\∀(i:Nat)(p:AV×α),(qS ks xs)[i]?=some p->ks[i]?=some p.1/\xs[i]?=some p.2:=by
 induction ks generalizing xs with
 |nil=>cases xs<;>simp_all[qS]
 |cons k ks ih=>
  cases xs with
  |nil=>grind
  |cons x xs=>
   obtain⟨h1,h2⟩:=ih (by simpa using h);refine⟨by simp[qS,h1],λi p hp=>?_⟩;cases i with
   |zero=>simp[qS]at hp;grind
   |succ i=>simp[qS]at hp;grind
theorem Cp {α:Type}(k:AV)(l:List (AV×α)):tQ k l=(iz k (iF l)).bind λj=>(l[j]?).map (·.2):=by
 induction l with
 |nil=>rfl
 |cons p l ih=>
  obtain⟨k',x⟩:=p;simp only[tQ,iF,iz];cases hs:qd k k' with
  |true=>simp
  |false=>
   simp only[ih];cases iz k (iF l)with
   |none=>rfl
   |some j=>simp
section
variable {E:Env}{G:aZ}{S:ag}{a:Act}{w:World}{o:Oper}{K:FV->Prop}
theorem OQ (hs:bp E G S a w){v:Value}{x:FV}{l:List (AV×FV)}(hx:aO G w v x)(h:x.entries S.maps=some l):∃es:List MapEntry,((v=.map none/\es=[])\/∃b gm,v=.map (some b)/\w.heap[b]?=some (.map es.toArray gm))/\es.length=l.length/\∀(i:Nat)(e:MapEntry)(p:AV×FV),es[i]?=some e->l[i]?=some p->dh G.bh w e.key p.1/\aO G w e.val p.2:=by
 cases x with
 |fu ob=>
  cases hx with
  |fu _ b hb=>obtain⟨b',gm,es,h1,h2,h3,h4,h5⟩:=hs.ext'.mps.at_ ob l h;grind
 |p y=>
  cases hx with
  |p _ _ hx=>
   cases hx with
   |vq=>simp only[FV.entries,bF]at h;simp_all
   |mp b gm es ks vs h1 h2 h3 h4 h5 h6 h7=>
    simp only[FV.entries,bF]at h;subst h;obtain⟨z1,z2⟩:=YK (ks:=ks) (xs:=aI vs) (by rw[er,aj];omega);refine⟨es,.inr ⟨b,gm,rfl,h4⟩,oO,λi e p he hp=>?_⟩;obtain⟨q1,q2⟩:=z2 i p hp;refine⟨h6 i e _ he q1,?_⟩;rw[er,aJ]at q2;cases hv:vs[i]?with
    |none=>simp_all
    |some y=>simp only[hv,ek,bF]at q2;rw[<-q2];exact .p _ _ (h7 i e y he hv)
   |_=>simp[FV.entries]at h
 |_=>simp[FV.entries]at h
theorem MC {l:List (AV×FV)}{es:List MapEntry}{agg:Bool}{L:List gC}{bh:Nat->Nat->Prop}(hl:es.length=l.length)(hr:∀(i:Nat)(e:MapEntry)(p:AV×FV),es[i]?=some e->l[i]?=some p->dh bh w e.key p.1)(hf:∀p,p∈l->ij agg L p.1=true):rR agg L es (iF l):=by
 refine⟨by rw[nh,aj];omega,λi e x he hx=>?_⟩;rw[nh,aJ]at hx;cases hp:l[i]?with
 |none=>simp_all
 |some p=>simp only[hp,ek,bF]at hx;subst hx;have :=hf p (bP hp);exact⟨sO (hr i e p he hp) this,this⟩
theorem HH {P:Program}{w:World}{e:TypeId}{z:Value}(h:(P.info? e).map (·.zero)=some (some z)):(zeroValue e).run P w=.ok z w:=by
 cases hi:P.info? e with
 |none=>simp_all
 |some i=>simp only[hi,ek,bF]at h;simp[zeroValue,run_typeInfo w hi,h]
theorem Ut {ok:Bool}{v:Value}{x:FV}(h:aO G w v x)(b:Bool):aO G w (if ok then .tuple #[v,.bool b]else v) (okV ok x b):=by
 cases ok with
 |false=>exact h
 |true=>
  refine .eS [v,.bool b] [x,.p (.bool b)] rfl λi c y h1 h2=>?_;match i,h1,h2 with
   |0,h1,h2=>simp_all
   |1,h1,h2=>cases h1;cases h2;exact .p _ _ (.bool b)
theorem JL (hs:bp E G S a w){t:TypeId}{x i:Operand}{ok:Bool}(ho:o.op=.lookup t x i ok)(h:Hp E.C S.maps t (S.val x) (S.val i) ok K):Yields E G a w o K:=by
 have hx:=aO.val hs x;have hi:=aO.val hs i;unfold Hp at h;split at h;rename_i kT eT _ ht;have hu:=(E.C.ok ht).map;split at h;rename_i ki kk l hki hkk hl;obtain⟨L,hL,hk,hall,r,hr,h⟩:=h;have hagg:=(E.C.ok hki).gM;rw[<-hagg]at hk hall;have hkey:=sO (hi.eW hkk) hk;obtain⟨es,hv,hlen,hent⟩:=OQ hs hx hl;have hka:=MC (w:=w) hlen (λi e p a b=>(hent i e p a b).1) hall;have MD:=λem=>(rQ (P:=E.C.P) (em:=em) 40).1 kT L 10000 w kk.cells dD hL (lR hk);have hfind:=vJ (w:=w) dD hL hk hka;rw[Cp]at hr;have hrun:∀res:Option (Nat×Value),found es 0 (iz kk (iF l))=res->∀v,(match res with|some (_,v')=>v=(if ok then .tuple #[v',.bool true]else v')|none=>∃z,(E.C.P.info? eT).map (·.zero)=some (some z)/\v=(if ok then .tuple #[z,.bool false]else z))->(Instr.lookup t (a.eval x) (a.eval i) ok).run E.C.P w=.ok v w:=by
  intro res hres v hvv;rw[hres]at hfind;rw[hkey];rcases hv with⟨e1,rfl⟩|⟨b,gm,e1,e2⟩;rw[e1];cases res with
  |none=>obtain⟨z,hz,rfl⟩:=hvv;simp[Instr.lookup,run_underlying hu,MD,hfind,HH hz]
  |some q=>simp[found]at hres
  rw[e1];have hg:(Go.getObj b).run E.C.P w=.ok (.map es.toArray gm) w:=by simp[Go.getObj,Sem.run,e2]
  cases res with
  |none=>obtain⟨z,hz,rfl⟩:=hvv;simp[Instr.lookup,run_underlying hu,hg,MD,hfind,HH hz]
  |some q=>obtain⟨j,v'⟩:=q;subst hvv;simp[Instr.lookup,run_underlying hu,hg,MD,hfind]
 cases fJ:iz kk (iF l)with
 |none=>rw[fJ]at hr;simp only[Option.bind_none]at hr;subst hr;obtain⟨z,hz,hK⟩:=h;have :=hrun none (by rw[fJ];rfl) _ ⟨z,hz,rfl⟩;exact Yields.same (by simp[execOp,ho,this]) hK (Ut (Hw _ _ _) false)
 |some j=>
  rw[fJ]at hr;have hj:j<(iF l).length:=by
   have :∀(ks:List AV)(j:Nat),iz kk ks=some j->j<ks.length:=by
    intro ks;induction ks with
    |nil=>intro j h;simp[iz]at h
    |cons x ks ih=>
     intro j h;simp only[iz]at h;split at h;grind;cases hq:iz kk ks with
     |none=>simp_all
     |some m=>grind
   exact this _ _ fJ
  rw[nh,aj]at hj;have Yd:j<es.length:=oO
  simp only[rV,an hj,ek]at hr;subst hr;have :=hrun (some (j,es[j].val)) (by rw[fJ];simp[found,Yd]) _ rfl;exact Yields.same (by simp[execOp,ho,this]) h (Ut (hent j _ _ (an Yd) (an hj)).2 true)
 simp_all;simp_all
end
end Qv
