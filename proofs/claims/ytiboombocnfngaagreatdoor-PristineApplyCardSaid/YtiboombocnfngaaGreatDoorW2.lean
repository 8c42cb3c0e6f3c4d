/- Part 2 of the proof: its lemmas. No condition. -/
import Derived.Test.YtiboombocnfngaaGreatDoorW1
import Derived.RangeFuncNested
import Derived.RangeFuncCalls
import Derived.RangeFuncLeaves
import Derived.RangeFuncBound
import Derived.TacticsIn
import Derived.OrdersIn
import Derived.ChangeKeysEq
import Derived.Laws.StructEq
import Derived.MapKept
import Derived.Laws.IdiomCopy
import Derived.Laws.Entries
import Derived.Laws.Small
import Derived.Laws.BytesString
import Derived.Laws.MathBits
import Derived.Maps.RangeRun
set_option maxRecDepth 10000
set_option maxHeartbeats 80000000
set_option linter.all false
namespace Qv
open Go Go.RowKit
structure Kept (own:List Nat)(sg:List (Nat×Nat))(w w':World):Prop where
 os:w'.os=w.os
 tape:w'.tape=w.tape
 output:w'.output=w.output
 size:w.heap.size<=w'.heap.size
 block:∀k,k<w.heap.size->k∉own->w'.heap[k]?=w.heap[k]?
 shape:∀k cs T fr,(∃o,(o,k)∈sg)->w.heap[k]?=some (.cells cs T fr)->∃cs',w'.heap[k]?=some (.cells cs' T fr)/\cs'.size=cs.size
structure Env where
 C:Ctx
 w0:World
 EM:Nat->Nat->Prop
 hJ:C.J w0
 hn:C.nt<=w0.heap.size
 mD:Option Nat
 bM:List (Array Value)
 loops:List (Nat×Loop)
 fixed:List Nat
 own:List Nat:=[]
 hown:∀b,b∈own->C.nt<=b/\b<w0.heap.size/\∀o,¬EM b o:=by intro _ h;cases h
 sg:List (Nat×Nat):=[]
 rows:List Nat:=[]
 CQ:∀p,p∈sg->p.2∈own/\p.2∉rows:=by intro _ h;cases h
 hrows:∀r,r∈rows->r∈own:=by intro _ h;cases h
def Env.mine (E:Env)(o b:Nat):Prop:=(E.w0.heap.size<=b/\iK o=false)\/(iK o=true/\(o,b)∈E.sg)
theorem Env.CR {E:Env}{o b:Nat}(h:E.mine o b):E.w0.heap.size<=b\/b∈E.own:=h.imp (λh=>h.1) λh=>(E.CQ _ h.2).1
theorem jl {l:List (Nat×List FV)}{d:Nat}{cs:List FV}(h:Bc l d=some cs):iK d=false/\Qv.getObj l d=some cs:=by unfold Bc at h;split at h;cases h;rename_i hb;exact⟨hb,h⟩
theorem Env.HX {E:Env}{o b:Nat}(h:E.mine o b)(ho:iK o=false):E.w0.heap.size<=b:=by rcases h with h|h;exact h.1;rw[ho]at h;cases h.1
theorem Env.Ny {E:Env}{o b k:Nat}(h:E.mine o b)(hk:k<E.w0.heap.size)(hk':k∉E.own):k≠b:=by rintro rfl;rcases E.CR h with h|h;omega;exact hk' h
theorem Env.PJ {E:Env}{b c:Nat}(h:E.mine 999999 b)(ho:E.sg=[(999999,c)]):b=c:=by rcases h with h|h;exact absurd h.2 dD;have :=h.2;rw[ho]at this;simpa using this
def Az.of (r:Loop):Az->Loop|.ready=>{r with state:=.ready,pending:=none}|.busy=>{r with state:=.busy,pending:=none}|.Nl=>{r with state:=.done,pending:=some .ret}|.HI id=>{r with state:=.done,pending:=some (.exit id)}
abbrev mark (r:Nat):Deferred:={target:=.collected r,args:=#[]}
def adu (br:Nat->Nat->Prop)(w:World)(es:List MapEntry)(l:List (AV×AV)):Prop:=es.length=l.length/\∀(i:Nat)(e:MapEntry)(p:AV×AV),es[i]?=some e->l[i]?=some p->dH br w e.key p.1/\dH br w e.val p.2
def aid (es:List MapEntry)(seen:Array Nat):List MapEntry:=es.filter λe=>!seen.contains e.born
def adv (br:Nat->Nat->Prop)(w:World)(r:Nat)(x:Option (AV×AV)×List (AV×AV)):Prop:=(x=(none,[])/\w.heap[r]?=some (.mapIter none 0 #[] 0))\/∃(m gL:Nat) (es:List MapEntry) (seen:Array Nat),w.heap[r]?=some (.mapIter (some m) gL seen gL)/\w.heap[m]?=some (.map es.toArray gL)/\br m 0/\qb es gL/\adu br w (aid es seen) x.2/\∀p,x.1=some p->∃(e:MapEntry) (aie:Array Nat),e∈es/\seen=aie.push e.born/\dH br w e.key p.1/\dH br w e.val p.2
def adw:Nm->Nat×Nat->Prop|.inl _,_=>True|.inr _,fr=>fr=(0,0)
def EN (G:bl)(T:TypeId)(z o:Nat)(e:MapEntry):Prop:=∃(a:Option Addr) (n c:Nat),e.val=.slice a n c/\((n=0/\c=0)\/∃b off,(a=some ⟨b,off,none⟩/\off=0)/\G.tail (.inr (o,e.born))=some (b,off+n*z,off+c*z,T))
structure YP (E:Env)(G:bl)(S:an)(w:World):Prop where
 at_:∀o l,getM S.maps o=some l->∃(b gL:Nat) (es:List MapEntry),G.mp o=some b/\w.heap[b]?=some (.map es.toArray gL)/\qb es gL/\es.length=l.length/\∀(i:Nat)(e:MapEntry)(p:AV×FV),es[i]?=some e->l[i]?=some p->dH G.br w e.key p.1/\aU G w e.val p.2
 loc:∀o b,G.mp o=some b->E.mine o b/\(∀i,¬G.br b i)/\∃es gL,w.heap[b]?=some (.map es gL)
 inj:∀o o' b,G.mp o=some b->G.mp o'=some b->o=o'
 jD:∀q x,getM S.jD q=some x->∃r,G.it q=some r/\adv G.br w r x
 Bm:∀q r,G.it q=some r->E.w0.heap.size<=r/\∃m s seen c,w.heap[r]?=some (.mapIter m s seen c)
 Bn:∀q q' r,G.it q=some r->G.it q'=some r->q=q'
 apart:∀o o' b,G.mp o=some b->G.loc o'≠some b
 room:∀(o:Nat)(T:TypeId)(z:Nat)(k:Option AV)(l:List (AV×FV))(b gL:Nat)(es:List MapEntry),getM S.maps o=some l->getM E.C.ex.Nk o=some (T,z,k)->G.mp o=some b->w.heap[b]?=some (.map es.toArray gL)->∀(i:Nat)(e:MapEntry)(p:AV×FV),es[i]?=some e->l[i]?=some p->k≠some p.1->EN G T z o e
structure Ext (E:Env)(G:bl)(S:an)(a:Act)(w:World):Prop where
 mps:YP E G S w
 lR:S.bM.length=E.bM.length
 bM:∀(i:Nat)(vals:Array Value)(fr:Fr),E.bM[i]?=some vals->S.bM[i]?=some fr->vals.size=fr.n/\∀j,j<fr.n->aU G w (vals.getD j undef) (fr.tmps j)
 kP:S.cO.length=E.loops.length
 loops:∀(i k:Nat)(r:Loop)(st:Az),E.loops[i]?=some (k,r)->S.cO[i]?=some st->E.w0.heap.size<=k/\w.heap[k]?=some (.loop (st.of r))
 lS:∀(i j k:Nat)(r r':Loop),E.loops[i]?=some (k,r)->E.loops[j]?=some (k,r')->i=j
 yl:∀(i k:Nat)(r:Loop),E.loops[i]?=some (k,r)->∀k',G.yl (1000000+i)=some k'->k'=k
 mD:∀l,E.mD=some l->∃(i:Nat) (r:Loop),E.loops[i]?=some (l,r)
 marks:∃ms:List Nat,a.defers=ms.map mark/\(ms++E.fixed).Nodup/\∀r,r∈ms++E.fixed->E.w0.heap.size<=r/\w.heap[r]?=some (.deferred (some []))
 Be:qc G.br w
def gy (w w':World):Prop:=∀(k:Nat)(o:Obj),w.heap[k]?=some o->o.isCells=false->w'.heap[k]?=some o
theorem gy.refl (w:World):gy w w:=λ_ _ h _=>h
theorem gy.trans {A B C:World}(h:gy A B)(h':gy B C):gy A C:=λk o a b=>h' k o (h k o a b) b
theorem gy.CS {w w':World}(h:Below w.heap.size w w'):gy w w':=λk o hk _=>by rw[h.block k (bz.1 hk).1];omega
theorem CT {w:World}{b i:Nat}{es:Array MapEntry}{n:Nat}(h:w.heap[b]?=some (.map es n)):w.cell? ⟨b,i,none⟩=none:=by simp[World.cell?,h]
theorem gy.qf {w w':World}(h:gy w w')(br:Nat->Nat->Prop):wN br w w':=λb es k _ hb=>h b _ hb rfl
theorem adu.keep {br uM:Nat->Nat->Prop}{w w':World}{es:List MapEntry}{l:List (AV×AV)}(h:adu br w es l)(hk:∀v x,dH br w v x->dH uM w' v x):adu uM w' es l:=⟨h.1,λi e p h1 h2=>⟨hk _ _ (h.2 i e p h1 h2).1,hk _ _ (h.2 i e p h1 h2).2⟩⟩
theorem adv.keep {br uM:Nat->Nat->Prop}{w w':World}{r:Nat}{x:Option (AV×AV)×List (AV×AV)}(h:adv br w r x)(hk:∀v x,dH br w v x->dH uM w' v x)(hi:∀b,br b 0->uM b 0)(hr:∀m s seen c,w.heap[r]?=some (.mapIter m s seen c)->w'.heap[r]?=some (.mapIter m s seen c))(hm:wN br w w'):adv uM w' r x:=by rcases h with⟨h1,h2⟩|⟨m,gL,es,seen,h1,h2,h3,h4,h5,h6⟩;exact .inl ⟨h1,hr _ _ _ _ h2⟩;refine .inr ⟨m,gL,es,seen,hr _ _ _ _ h1,hm _ _ _ h3 h2,hi _ h3,h4,h5.keep hk,λp hp=>?_⟩;grind
theorem Nz (l:List (AV×FV)):yO (λx=>x) l=l:=by
 induction l with
 |nil=>rfl
 |cons p l ih=>obtain⟨k,x⟩:=p;simp[yO,ih]
theorem YP.env {E E':Env}{G:bl}{S S':an}{w:World}(h:YP E G S w)(hE:E'.w0=E.w0)(hm:S'.maps=S.maps)(hi:S'.jD=S.jD)(hC:E'.C=E.C:=by rfl)(hL:E'.sg=E.sg:=by rfl):YP E' G S' w:=⟨λo l q=>h.at_ o l (hm▸q),λo b q=>by unfold Env.mine;rw[hE,hL];exact h.loc o b q,h.inj,λq x p=>h.jD q x (hi▸p),λq r p=>hE▸h.Bm q r p,h.Bn,h.apart,λo T z k l b gL es q1 q2 q3 q4 i e p q5 q6 q7=>h.room o T z k l b gL es (hm▸q1) (hC▸q2) q3 q4 i e p q5 q6 q7⟩
theorem NA {es es':List MapEntry}{c c':Nat}{o:Option Obj}(h:o=some (.map es.toArray c))(h':o=some (.map es'.toArray c')):es'=es:=by simp_all
structure mj (f:FV->FV)(G G':bl)(S S':an)(w:World):Prop where
 p:∀x,f (.p x)=.p x
 maps:∀o l',getM S'.maps o=some l'->∃l,getM S.maps o=some l/\l'=yO f l/\∀b,G.mp o=some b->G'.mp o=some b
 jD:∀q x,getM S'.jD q=some x->getM S.jD q=some x/\∀r,G.it q=some r->G'.it q=some r
 mp:∀o b,G'.mp o=some b->G.mp o=some b
 it:∀o b,G'.it o=some b->G.it o=some b
 afH:∀b i es k,w.heap[b]?=some (.map es k)->(∃o,G'.mp o=some b)->G'.br b i->G.br b i
 afI:∀b,G.br b 0->G'.br b 0
 loc:∀o b,G'.loc o=some b->G.loc o=some b\/∀es k,w.heap[b]?≠some (.map es k)
 tail:∀q r,G.tail (.inr q)=some r->G'.tail (.inr q)=some r
theorem mj.same {G G':bl}{S S':an}{w:World}(h1:S'.maps=S.maps)(h2:S'.jD=S.jD)(h3:G'.mp=G.mp)(h4:G'.it=G.it)(h5:G'.br=G.br)(h6:G'.loc=G.loc)(ht:∀q r,G.tail (.inr q)=some r->G'.tail (.inr q)=some r:=by first|exactλ_ _ h=>h|exactλ_ _ h=>(af (λe=>nomatch e)).trans h):mj (λx=>x) G G' S S' w:=⟨λ_=>rfl,λo l' h=>⟨l',h1▸h,(Nz l').symm,λb hb=>h3▸hb⟩,λq x h=>⟨h2▸h,λr hr=>h4▸hr⟩,λo b h=>h3▸h,λo b h=>h4▸h,λ_ _ _ _ _ _ h=>h5▸h,λ_ h=>h5▸h,λ_ _ h=>.inl (h6▸h),ht⟩
theorem mj.more {G G':bl}{S S':an}{w:World}(h1:S'.maps=S.maps)(h2:S'.jD=S.jD)(h3:G'.mp=G.mp)(h4:G'.it=G.it)(h5:∀b i,G'.br b i->G.br b i\/w.heap.size<=b)(h6:∀b,G.br b 0->G'.br b 0)(h7:∀o b,G'.loc o=some b->G.loc o=some b\/∀es k,w.heap[b]?≠some (.map es k))(ht:∀q r,G.tail (.inr q)=some r->G'.tail (.inr q)=some r:=by first|exactλ_ _ h=>h|exactλ_ _ h=>(af (λe=>nomatch e)).trans h):mj (λx=>x) G G' S S' w:=⟨λ_=>rfl,λo l' h=>⟨l',h1▸h,(Nz l').symm,λb hb=>h3▸hb⟩,λq x h=>⟨h2▸h,λr hr=>h4▸hr⟩,λo b h=>h3▸h,λo b h=>h4▸h,λb i _ _ hb _ h=>(h5 b i h).elim id λh=>by simp_all,h6,h7,ht⟩
theorem YP.move {E:Env}{G G':bl}{S S':an}{w w':World}(h:YP E G S w)(f:FV->FV)(hk:∀v x,aU G w v x->aU G' w' v (f x))(hw:gy w w')(hm:mj f G G' S S' w):YP E G' S' w':=by
 have hp:∀v x,dH G.br w v x->dH G'.br w' v x:=λv x hv=>by
  have h1:=hk v (.p x) (.p v x hv);rw[hm.p]at h1;cases h1 with
  |p _ _ h2=>omega
 refine⟨λo l' hl=>?_,λo b hb=>?_,λo o' b h1 h2=>h.inj o o' b (hm.mp _ _ h1) (hm.mp _ _ h2),λq x hx=>?_,λq r hr=>?_,λq q' r h1 h2=>h.Bn q q' r (hm.it _ _ h1) (hm.it _ _ h2),λo o' b h1 h2=>?_,λo T z k l' b' BM es' q1 q2 q3 q4 i e p q5 q6 q7=>?_⟩;obtain⟨l,h1,rfl,h2⟩:=hm.maps o l' hl;obtain⟨b,gL,es,h3,h4,h5,h6,h7⟩:=h.at_ o l h1;refine⟨b,gL,es,h2 b h3,hw _ _ h4 rfl,h5,by rw[wQ,aj];omega,λi e p he hpp=>?_⟩;rw[wQ,aM]at hpp;grind;obtain⟨h1,h2,es,gL,h3⟩:=h.loc o b (hm.mp _ _ hb);exact⟨h1,λi hi=>h2 i (hm.afH b i es gL h3 ⟨o,hb⟩ hi),es,gL,hw _ _ h3 rfl⟩;obtain⟨h1,h2⟩:=hm.jD q x hx;obtain⟨r,h3,h4⟩:=h.jD q x h1;exact⟨r,h2 r h3,h4.keep hp hm.afI (λm s seen c h=>hw _ _ h rfl) (hw.qf _)⟩;obtain⟨h1,m,s,seen,c,h2⟩:=h.Bm q r (hm.it _ _ hr);exact⟨h1,m,s,seen,c,hw _ _ h2 rfl⟩;rcases hm.loc o' b h2 with h3|h3;exact h.apart o o' b (hm.mp _ _ h1) h3;obtain⟨-,-,es,k,h4⟩:=h.loc o b (hm.mp _ _ h1);simp_all;obtain⟨l,h1,rfl,h2⟩:=hm.maps o l' q1;obtain⟨b,gL,es,h3,h4,h5,h6,h7⟩:=h.at_ o l h1;obtain rfl:b=b':=by simp_all
 obtain rfl:=NA (hw _ _ h4 rfl) q4;rw[wQ,aM]at q6;cases hq:l[i]?with
 |none=>simp_all
 |some q=>simp only[hq,eW,bN]at q6;subst q6;obtain⟨ad,n,c,g1,g2⟩:=h.room o T z k l b gL es' h1 q2 h3 h4 i e q q5 hq q7;exact⟨ad,n,c,g1,g2.imp id λ⟨b2,off,g3,g4⟩=>⟨b2,off,g3,hm.tail _ _ g4⟩⟩
theorem qc.of {G G':bl}{w w':World}(h:qc G.br w)(hk:∀v x,aU G w v x->aU G' w' v x):qc G'.br w':=λg xs hg=>by
 have key:∀v x,dH G.br w v x->dH G'.br w' v x:=λv x hv=>by
  have h1:=hk v (.p x) (.p v x hv);cases h1 with
  |p _ _ h2=>omega
 exact key _ _ (h g xs hg)
theorem Ext.move {E:Env}{G G':bl}{S S':an}{a a':Act}{w w':World}(h:Ext E G S a w)(f:FV->FV)(hd:a'.defers=a.defers)(hp:S'.cO=S.cO)(hs:S'.bM=yW f S.bM)(hk:∀v x,aU G w v x->aU G' w' v (f x))(hw:gy w w')(HY:mj f G G' S S' w)(hy:∀l k,G'.yl l=some k->G.yl l=some k:=by intro _ _ h;exact h):Ext E G' S' a' w':=by
 refine⟨h.mps.move f hk hw HY,by rw[hs,HJ,aj];exact h.lR,λi vals fr h1 h2=>?_,by rw[hp];exact h.kP,λi k r st h1 h2=>?_,h.lS,λi k r h1 k' h2=>h.yl i k r h1 k' (hy _ _ h2),h.mD,?_,λg xs hg=>?_⟩;rw[hs,HJ,aM]at h2;cases hx:S.bM[i]?with
 |none=>simp_all
 |some fr0=>simp[hx]at h2;subst h2;obtain⟨h3,h4⟩:=h.bM i vals fr0 h1 hx;exact⟨h3,λj hj=>hk _ _ (h4 j hj)⟩
 obtain⟨h3,h4⟩:=h.loops i k r st h1 (hp▸h2);exact⟨h3,hw _ _ h4 rfl⟩;obtain⟨ms,h1,h2,h3⟩:=h.marks;exact⟨ms,hd.trans h1,h2,λr hr=>⟨(h3 r hr).1,hw _ _ (h3 r hr).2 rfl⟩⟩;have key:∀v x,dH G.br w v x->dH G'.br w' v x:=λv x hv=>by
  have h1:=hk v (.p x) (.p v x hv);rw[HY.p]at h1;cases h1 with
  |p _ _ h2=>omega
 exact key _ _ (h.Be g xs hg)
theorem Zw (rs:List Fr):yW (λx=>x) rs=rs:=by
 induction rs with
 |nil=>rfl
 |cons r rs ih=>simp[yW,ih,Fr.map]
theorem Ext.keep {E:Env}{G G':bl}{S S':an}{a a':Act}{w w':World}(h:Ext E G S a w)(hd:a'.defers=a.defers)(hp:S'.cO=S.cO)(hs:S'.bM=S.bM)(hk:∀v x,aU G w v x->aU G' w' v x)(hw:gy w w')(hy:∀l k,G'.yl l=some k->G.yl l=some k:=by intro _ _ h;exact h)(HY:mj (λx=>x) G G' S S' w:=by exact mj.same rfl rfl rfl rfl rfl rfl):Ext E G' S' a' w':=h.move (λx=>x) hd hp (by rw[Zw];omega) hk hw HY hy
structure Bld (E:Env)(G:bl)(S:an)(w:World):Prop where
 at_:∀o bs,me S.dh o=some bs->getObj S.aK o=none/\∃b,G.loc o=some b/\yV E.C w b (G.row o) bs
 row:∀o r,G.row o=some r->(E.w0.heap.size<=r\/(o=999999/\r∈E.rows))/\r<w.heap.size/\(∀i,¬G.br r i)/\(∀o',G.loc o'≠some r)/\(∀t q,G.tail t≠some (r,q))/\∀o',G.row o'=some r->o'=o
 dx:∀o r,G.row o=some r->∃cs T fr,w.heap[r]?=some (.cells cs T fr)
theorem yV.keep {C:Ctx}{w w':World}{b:Nat}{row:Option Nat}{bs:List UInt8}(h:yV C w b row bs)(hb:w'.heap[b]?=w.heap[b]?)(hr:∀r,row=some r->w'.heap[r]?=w.heap[r]?):yV C w' b row bs:=by obtain⟨p,v,h1,h2,h3⟩:=h;refine⟨p,v,h1,hb.trans h2,?_⟩;grind
theorem Bld.keep {E E':Env}{G G':bl}{S S':an}{w w':World}(h:Bld E G S w)(hC:E'.C=E.C)(hw0:E'.w0=E.w0)(hS:∀o bs,me S'.dh o=some bs->me S.dh o=some bs/\G'.loc o=G.loc o/\G'.row o=G.row o)(hO:∀o bs,me S'.dh o=some bs->getObj S.aK o=none->getObj S'.aK o=none)(hrow:∀o r,G'.row o=some r->G.row o=some r)(hsz:w.heap.size<=w'.heap.size)(hb:∀o bs b,me S.dh o=some bs->getObj S.aK o=none->G.loc o=some b->w'.heap[b]?=w.heap[b]?)(hr:∀o r,G.row o=some r->w'.heap[r]?=w.heap[r]?)(CU:∀o r i,G.row o=some r->G'.br r i->G.br r i)(fZ:∀o r o',G.row o=some r->G'.loc o'=some r->G.loc o'=some r)(aif:∀o r t q,G.row o=some r->G'.tail t=some (r,q)->∃t' q',G.tail t'=some (r,q'))(hown:E'.rows=E.rows:=by rfl):Bld E' G' S' w':=by refine⟨λo bs hq=>?_,λo r hq=>?_,λo r hq=>by rw[hr o r (hrow o r hq)];exact h.dx o r (hrow o r hq)⟩;obtain⟨h1,h2,h3⟩:=hS o bs hq;obtain⟨h4,b,h5,h6⟩:=h.at_ o bs h1;refine⟨hO o bs hq h4,b,h2.trans h5,?_⟩;rw[h3,hC];exact h6.keep (hb o bs b h1 h4 h5) (λr e=>hr o r e);have h0:=hrow o r hq;obtain⟨h1,h2,h3,h4,h5,h6⟩:=h.row o r h0;grind
theorem Bld.same {E E':Env}{G:bl}{S S':an}{w w':World}(h:Bld E G S w)(hC:E'.C=E.C)(hw0:E'.w0=E.w0)(hS:S'.dh=S.dh)(hO:S'.aK=S.aK)(hsz:w.heap.size<=w'.heap.size)(hb:∀o bs b,me S.dh o=some bs->getObj S.aK o=none->G.loc o=some b->w'.heap[b]?=w.heap[b]?)(hr:∀o r,G.row o=some r->w'.heap[r]?=w.heap[r]?)(hown:E'.rows=E.rows:=by rfl):Bld E' G S' w':=h.keep hC hw0 (λo bs q=>⟨hS▸q,rfl,rfl⟩) (λo _ _ q=>hO▸q) (λ_ _ e=>e) hsz hb hr (λ_ _ _ _ e=>e) (λ_ _ _ _ e=>e) (λ_ _ t q _ e=>⟨t,q,e⟩) hown
structure bA (E:Env)(G:bl)(S:an)(a:Act)(w:World):Prop where
 kept:Kept E.own E.sg E.w0 w
 size:a.tmps.size=S.n
 ext':Ext E G S a w
 jr:Bld E G S w
 nS:∀b o,G.br b o->E.EM b o\/E.w0.heap.size<=b
 fJ:∀b o,G.br b o->b<w.heap.size
 tmps:∀i,i<S.n->aU G w (a.tmps.getD i undef) (S.tmps i)
 aK:∀o cells,getObj S.aK o=some cells->∃b,G.loc o=some b/\∀(i:Nat)(x:FV),cells[i]?=some x->∃c,w.cell? ⟨b,i,none⟩=some c/\aU G w c x
 gW:∀o b,G.loc o=some b->b<w.heap.size/\E.mine o b/\∀i,¬G.br b i/\w.frozen? ⟨b,i,none⟩=false
 fq:∀o o' b,G.loc o=some b->G.loc o'=some b->o=o'
 cL:∀o t b r,G.loc o=some b->G.tail t=some (b,r)->t=o/\me S.dh o=none/\∀cells,getObj S.aK o=some cells->cells.length=r.1
 gv:∀t b s e T,G.tail t=some (b,s,e,T)->b<w.heap.size/\E.w0.heap.size<=b/\(∃cs fr,w.heap[b]?=some (.cells cs T fr)/\adw t fr)/\∀i,s<=i->i<e->(∃c,w.cell? ⟨b,i,none⟩=some c)/\w.frozen? ⟨b,i,none⟩=false/\¬G.br b i
 ew:∀t t' b r r',G.tail t=some (b,r)->G.tail t'=some (b,r')->t=t'
def nT (E:Env)(S:an)(a:Act)(w:World):Prop:=∃G,bA E G S a w
theorem nT.weaken {E:Env}{S S':an}{a:Act}{w:World}(h:nT E S a w)(hw:cU S S'):nT E S' a w:=by
 obtain⟨G,h⟩:=h;refine⟨G,h.kept,h.size.trans hw.n.symm,⟨⟨λo l' hl=>?_,h.ext'.mps.loc,h.ext'.mps.inj,λq x hx=>h.ext'.mps.jD q x (hw.jD q x hx),h.ext'.mps.Bm,h.ext'.mps.Bn,h.ext'.mps.apart,λo T z k l' b gL es q1 q2 q3 q4 i e p q5 q6 q7=>?_⟩,hw.bM.1.trans h.ext'.lR,λi vals fr h1 h2=>?_,by rw[hw.cO];exact h.ext'.kP,λi k r st h1 h2=>h.ext'.loops i k r st h1 (hw.cO▸h2),h.ext'.lS,h.ext'.yl,h.ext'.mD,h.ext'.marks,h.ext'.Be⟩,⟨λo bs q=>⟨(hw.dh o bs q).2 (h.jr.at_ o bs (hw.dh o bs q).1).1,(h.jr.at_ o bs (hw.dh o bs q).1).2⟩,h.jr.row,h.jr.dx⟩,h.nS,h.fJ,λi hi=>hw.tmps i _ _ _ (h.tmps i (hw.n▸hi)),λo ys ho=>?_,h.gW,h.fq,λo t b r h1 h2=>?_,h.gv,h.ew⟩;obtain⟨l,h1,h2,h3⟩:=hw.maps o l' hl;obtain⟨b,gL,es,h4,h5,h6,h7,h8⟩:=h.ext'.mps.at_ o l h1;refine⟨b,gL,es,h4,h5,h6,h7.trans h2,λi e p he hp=>?_⟩;have FQ:i<l.length:=by rw[h2];exact(aI.1 hp).1
 obtain⟨h9,h10⟩:=h3 i _ p (ay FQ) hp;obtain⟨h11,h12⟩:=h8 i e _ he (ay FQ);exact⟨h9▸h11,h10 _ _ _ h12⟩;obtain⟨l,h1,h2,h3⟩:=hw.maps o l' q1;have FQ:i<l.length:=by rw[h2];exact(aI.1 q6).1
 obtain⟨h9,-⟩:=h3 i _ p (ay FQ) q6;exact h.ext'.mps.room o T z k l b gL es h1 q2 q3 q4 i e _ q5 (ay FQ) (h9▸q7);have hl:i<S.bM.length:=by rw[<-hw.bM.1];exact(aI.1 h2).1
 obtain⟨h3,h4,h5⟩:=hw.bM.2 i _ fr (ay hl) h2;obtain⟨h6,h7⟩:=h.ext'.bM i vals _ h1 (ay hl);exact⟨h6.trans h3.symm,λj hj=>h5 j _ _ _ (h7 j (h3▸hj))⟩;obtain⟨xs,h1,h2,h3⟩:=hw.aK o ys ho;obtain⟨b,h4,h5⟩:=h.aK o xs h1;refine⟨b,h4,λi y hy=>?_⟩;have hl:i<xs.length:=by rw[h2];exact(aI.1 hy).1
 obtain⟨c,h6,h7⟩:=h5 i _ (ay hl);exact⟨c,h6,h3 i _ _ (ay hl) hy _ _ _ h7⟩;obtain⟨h3,h4,h5⟩:=h.cL o t b r h1 h2;refine⟨h3,?_,λys ho=>?_⟩;cases hb:me S'.dh o with
 |none=>rfl
 |some bs=>rw[(hw.dh o bs hb).1]at h4;omega
 obtain⟨xs,h6,h7,-⟩:=hw.aK o ys ho;simp_all
theorem bA.J {E:Env}{G:bl}{S:an}{a:Act}{w:World}(h:bA E G S a w):(E.C.J w/\qc G.br w)/\E.C.nt<=w.heap.size:=⟨⟨E.C.agn E.w0 w (λk hk=>h.kept.block k (ef hk E.hn) λhm=>by have :=(E.hown k hm).1;omega) E.hJ,h.ext'.Be⟩,cg E.hn h.kept.size⟩
theorem kQ {a:Act}{t:Nat}:a.eval (.tmp t)=a.tmps.getD t undef:=rfl
theorem aU.get {E:Env}{G:bl}{S:an}{a:Act}{w:World}(h:bA E G S a w)(t:Nat):aU G w (a.tmps.getD t undef) (S.get t):=by unfold an.get;split;rename_i hb;exact h.tmps t (by simp_all);exact .dW _
theorem SU (br:Nat->Nat->Prop)(w:World)(s:ByteArray):dH br w (.string s) (.str s.data.toList):=by have :=dH.str (br:=br) (w:=w) s.data.toList;omega
theorem uV (G:bl)(w:World)(v:Value):aU G w v (FV.iC v):=by unfold FV.iC;split;exact .p _ _ (.bool _);exact .p _ _ (.int _ _);exact .p _ _ (SU _ _ _);exact .p _ _ .yU;exact .p _ _ .EG;exact .p _ _ .uh;exact .p _ _ .wM;exact .full [] none (.Vg none 0);exact .dW _
theorem HZ (G:bl)(w:World)(v:Value):aU G w v (FV.Pq v):=by unfold FV.Pq;split;rename_i cs;have :=aU.agg (G:=G) (w:=w) cs.toList (cs.toList.map FV.iC) (by simp) (λi c x h1 h2=>by rw[aM,h1]at h2;simp only[eW,bN]at h2;subst h2;exact uV _ _ _);omega;exact .p _ _ (by simpa using dH.eN (br:=G.br) (w:=w) [] [] rfl (by simp));exact uV _ _ _
theorem aU.val {E:Env}{G:bl}{S:an}{a:Act}{w:World}(h:bA E G S a w)(x:Operand):aU G w (a.eval x) (S.val x):=by
 cases x with
 |tmp t=>exact aU.get h t
 |const v=>exact HZ _ _ _
 |func f=>exact .p _ _ (by simpa[Act.eval]using dH.fn (br:=G.br) (w:=w) (.func f) [] [] [] [] rfl rfl (by simp) (by simp))
 |global g=>simp only[an.val];split;rename_i xs hg;exact .p _ _ (h.ext'.Be g xs hg);exact .dW _
theorem bA.put {E:Env}{G:bl}{S:an}{a:Act}{w:World}(h:bA E G S a w)(dst:Option Nat){v:Value}{x:FV}(hv:aU G w v x):bA E G (S.put dst x) (a.put dst v) w:=by
 cases dst with
 |none=>exact h
 |some d=>
  refine⟨h.kept,by simpa[Act.put,an.put]using h.size,h.ext'.keep rfl rfl rfl (λ_ _ h=>h) (.refl _),⟨h.jr.at_,h.jr.row,h.jr.dx⟩,h.nS,h.fJ,λi hi=>?_,h.aK,h.gW,h.fq,h.cL,h.gv,h.ew⟩;have hi':i<a.tmps.size:=by rw[h.size];exact hi
  simp only[an.put,Act.put];by_cases hd:i=d;simp_all;have :Nat.beq i d=false:=by cases hb:Nat.beq i d;rfl;simp_all
  rw[this];have :=h.tmps i hi;simpa[Array.getD,hi',CV,eY hd]using this
theorem bA.PK {E:Env}{G:bl}{S:an}{a:Act}{w w':World}(h:bA E G S a w)(hb:Below w.heap.size w w')(N:Nat->Nat->Prop):bA E {G with br:=λb o=>G.br b o\/(w.heap.size<=b/\b<w'.heap.size/\N b o)} S a w':=by have hcell:∀b i,b<w.heap.size->w'.cell? ⟨b,i,none⟩=w.cell? ⟨b,i,none⟩:=λb i hl=>hb.cell (p:=⟨b,i,none⟩) hl;have FR:∀b i,b<w.heap.size->w'.frozen? ⟨b,i,none⟩=w.frozen? ⟨b,i,none⟩:=λb i hl=>hb.frozen (p:=⟨b,i,none⟩) hl;have keep:∀v x,aU G w v x->aU {G with br:=λb o=>G.br b o\/(w.heap.size<=b/\b<w'.heap.size/\N b o)} w' v x:=λv x hv=>hv.keep (λb o hi=>.inl hi) (λb o c hi hc=>by rw[hcell b o (h.fJ b o hi)];omega) ((gy.CS hb).qf _) (λ_ _ e=>e) (λ_ _ e=>e);refine⟨⟨hb.os.trans h.kept.os,hb.tape.trans h.kept.tape,hb.output.trans h.kept.output,cg h.kept.size hb.size,λk hk hk'=>(hb.block k (ef hk h.kept.size)).trans (h.kept.block k hk hk'),λk cs T fr hk q=>let⟨cs',q1,q2⟩:=h.kept.shape k cs T fr hk q;⟨cs',(hb.block k (bz.1 q1).1).trans q1,q2⟩⟩,h.size,h.ext'.keep rfl rfl rfl keep (.CS hb) (HY:=.more rfl rfl rfl rfl (λb i hi=>hi.imp id λhi=>hi.1) (λb hi=>.inl hi) λ_ _ h=>.inl h),?_,?_,?_,λi hi=>keep _ _ (h.tmps i hi),?_,?_,h.fq,h.cL,?_,h.ew⟩;exact h.jr.keep rfl rfl (λo bs q=>⟨q,rfl,rfl⟩) (λ_ _ _ q=>q) (λ_ _ e=>e) hb.size (λo bs b q _ e=>hb.block b (h.gW o b e).1) (λo r e=>hb.block r (h.jr.row o r e).2.1) (λo r i e hi=>hi.elim id λhi=>absurd (h.jr.row o r e).2.1 oO) (λ_ _ _ _ e=>e) (λ_ _ t q _ e=>⟨t,q,e⟩);rintro b o (hi|⟨hi,_⟩);exact h.nS b o hi;exact .inr (cg h.kept.size hi);rintro b o (hi|⟨_,hi,_⟩);exact ef (h.fJ b o hi) hb.size;omega;intro o cells ho;obtain⟨b,h1,h2⟩:=h.aK o cells ho;refine⟨b,h1,λi x hx=>?_⟩;obtain⟨c,h3,h4⟩:=h2 i x hx;exact⟨c,by rw[hcell b i (h.gW o b h1).1];omega,keep _ _ h4⟩;intro o b ho;obtain⟨h1,h2,h3⟩:=h.gW o b ho;refine⟨ef h1 hb.size,h2,λi=>⟨?_,by simp_all⟩⟩;grind;intro t b s e T ht;obtain⟨h1,h2,hty,h3⟩:=h.gv t b s e T ht;refine⟨ef h1 hb.size,h2,by rw[hb.block b h1];omega,λi hi hi'=>?_⟩;grind
theorem bA.ext {E:Env}{G:bl}{S:an}{a:Act}{w w':World}(h:bA E G S a w)(hb:Below w.heap.size w w'):bA E {G with br:=λb o=>G.br b o\/(w.heap.size<=b/\b<w'.heap.size)} S a w':=by have :=h.PK hb λ_ _=>True;simp_all
theorem CW (br:Nat->Nat->Prop)(w:World)(o:Obj):wN br w (w.alloc o):=(gy.CS ((Below.refl _ _).alloc (aB _) _)).qf _
theorem bA.drew {E:Env}{G:bl}{S:an}{a:Act}{w:World}(h:bA E G S a w):bA E G S a {w with drawn:=w.drawn+1}:=by have keep:∀v x,aU G w v x->aU G {w with drawn:=w.drawn+1} v x:=λv x hv=>hv.keep (λ_ _ hi=>hi) (λ_ _ _ _ hc=>hc) (λ_ _ _ _ h=>h) (λ_ _ e=>e) (λ_ _ e=>e);refine⟨⟨h.kept.os,h.kept.tape,h.kept.output,h.kept.size,h.kept.block,h.kept.shape⟩,h.size,h.ext'.keep rfl rfl rfl keep (.refl _),h.jr.same rfl rfl rfl rfl (aB _) (λ_ _ _ _ _ _=>rfl) (λ_ _ _=>rfl),h.nS,h.fJ,λi hi=>keep _ _ (h.tmps i hi),λo cells ho=>?_,h.gW,h.fq,h.cL,h.gv,h.ew⟩;obtain⟨b,h1,h2⟩:=h.aK o cells ho;exact⟨b,h1,λi x hx=>let⟨c,h3,h4⟩:=h2 i x hx;⟨c,h3,keep _ _ h4⟩⟩
def AV.cell:AV->Value|.bool b=>.bool b|.int k n=>.int k n|.str s=>.string ⟨s.toArray⟩|_=>undef
def tv (agg:Bool)(xs:List AV):Value:=match agg with|true=>.agg (xs.map AV.cell).toArray|false=>(xs.map AV.cell).headD undef
def iw (P:Program)(t:TypeId):Bool:=match P.underlying t with|some (.struct _)=>true|some (.array _ _)=>true|_=>false
theorem SV {P:Program}{w:World}{t:TypeId}{d:TypeDesc}(h:P.underlying t=some d):(Go.isAgg t).run P w=.ok (iw P t) w:=by simp only[Go.isAgg,Sem.run_bind,run_underlying h,Result.andThen_ok,iw,h];cases d<;>rfl
theorem Ia (k:IntKind):Bk k k=true:=by simp[Bk]
theorem jt {L:List gZ}{xs:List AV}(h:fU L xs=true):xs.length=L.length:=by
 induction L generalizing xs with
 |nil=>cases xs<;>simp_all[fU]
 |cons l L ih=>
  cases xs with
  |nil=>simp[fU]at h
  |cons x xs=>simp only[fU]at h;grind
theorem vW {L1 L2:List gZ}{xs:List AV}(h:fU (L1++L2) xs=true):∃x1 x2,xs=x1++x2/\fU L1 x1=true/\fU L2 x2=true:=by
 induction L1 generalizing xs with
 |nil=>exact⟨[],xs,rfl,rfl,h⟩
 |cons l L1 ih=>
  cases xs with
  |nil=>simp[fU]at h
  |cons x xs=>simp only[cr,fU]at h;split at h;rename_i hx;obtain⟨x1,x2,rfl,h1,h2⟩:=ih h;exact⟨x::x1,x2,rfl,by simp[fU,hx,h1],h2⟩;simp_all
theorem Ib {L1:List gZ}{x1 y1 x2 y2:List AV}(hx:fU L1 x1=true)(hy:fU L1 y1=true):sameAs (x1++x2) (y1++y2)=(sameAs x1 y1&&sameAs x2 y2):=by
 induction L1 generalizing x1 y1 with
 |nil=>cases x1<;>cases y1<;>simp_all[fU,sameAs]
 |cons l L1 ih=>
  cases x1 with
  |nil=>simp[fU]at hx
  |cons x x1=>
   cases y1 with
   |nil=>simp[fU]at hy
   |cons y y1=>simp only[fU]at hx hy;split at hx;split at hy;simp only[cr,sameAs,ih hx hy,Bool.and_assoc];simp_all;simp_all
theorem adx {P:Program}{w:World}{d:Nat}{t:TypeId}{l:gZ}{x y:AV}(hu:(P.underlying t=some .bool/\l=.bool)\/(∃k,P.underlying t=some (.int k)/\l=.int k)\/(P.underlying t=some .string/\l=.str))(hx:l.fits x=true)(hy:l.fits y=true):(Op.equalIn (d+1) t x.cell y.cell).run P w=.ok (sD x y) w:=by rcases hu with⟨hu,rfl⟩|⟨k,hu,rfl⟩|⟨hu,rfl⟩;cases x<;>simp[gZ.fits]at hx;cases y<;>simp[gZ.fits]at hy;simp[AV.cell,Op.equalIn,run_underlying hu,sD];cases x<;>simp[gZ.fits]at hx;cases y<;>simp[gZ.fits]at hy;obtain rfl:=rX hx;obtain rfl:=rX hy;simp[AV.cell,Op.equalIn,run_underlying hu,sD,Ia];cases x<;>simp[gZ.fits]at hx;cases y<;>simp[gZ.fits]at hy;rename_i a b;simp only[AV.cell,Op.equalIn,Sem.run_bind,run_underlying hu,Result.andThen_ok,Sem.run_pure,sD,beq_toListBytes];simp_all
theorem ady {A x B:List AV}{off n:Nat}(hA:A.length=off)(hx:x.length=n):((A++(x++B)).map AV.cell).toArray.extract off (off+n)=(x.map AV.cell).toArray:=by simp_all
theorem SX {P:Program}{w:World}{e:TypeId}{d:TypeDesc}{L:List gZ}{A x B:List AV}{off:Nat}(hu:P.underlying e=some d)(hagg:iw P e=true->P.cellsOf e=L.length/\∃i,P.info? e=some i)(h1:iw P e=false->L.length=1)(hA:A.length=off)(hx:fU L x=true):(part e ((A++(x++B)).map AV.cell).toArray off).run P w=.ok (tv (iw P e) x) w:=by
 have hl:=jt hx;simp only[part,Sem.run_bind,SV hu,Result.andThen_ok];cases hq:iw P e with
 |true=>obtain⟨h2,i,hi⟩:=hagg hq;simp only[if_true,Sem.run_bind,run_sizeOf w hi,Result.andThen_ok,Sem.run_pure,h2,tv,<-hl,ady hA rfl]
 |false=>have h3:=h1 hq;match x,hl.trans h3 with|[a],_=>simp only[tc,if_false,tv];simp_all
theorem ru {P:Program}{d:Nat}{t:TypeId}{L:List gZ}(h:fB P (d+1) t=some L):(∃l,L=[l]/\iw P t=false/\((P.underlying t=some .bool/\l=.bool)\/(∃k,P.underlying t=some (.int k)/\l=.int k)\/(P.underlying t=some .string/\l=.str)))\/(P.cellsOf t=L.length/\iw P t=true/\((∃fs,P.underlying t=some (.struct fs)/\P.stoodInHeld t=false/\oH P d 0 fs.toList=some L)\/∃n e l,P.underlying t=some (.array n e)/\fB P d e=some l/\P.cellsOf e=l.length/\L=(List.replicate n l).flatten)):=by
 have YQ:∀{o:Option (List gZ)},adp P t o=some L->o=some L/\P.cellsOf t=L.length:=λ{o} h=>by unfold adp at h;split at h;grind;split at h;simp_all;simp_all
 unfold fB at h;split at h;rename_i hu;obtain rfl:=aq h;exact .inl ⟨_,rfl,by simp[iw,hu],.inl ⟨hu,rfl⟩⟩;rename_i k hu;obtain rfl:=aq h;exact .inl ⟨_,rfl,by simp[iw,hu],.inr (.inl ⟨k,hu,rfl⟩)⟩;rename_i hu;obtain rfl:=aq h;exact .inl ⟨_,rfl,by simp[iw,hu],.inr (.inr ⟨hu,rfl⟩)⟩;rename_i fs hu;split at h;grind;rename_i hs;obtain⟨h1,h2⟩:=YQ h;exact .inr ⟨h2,by simp[iw,hu],.inl ⟨fs,hu,hs,h1⟩⟩;rename_i n e hu;split at h;grind;rename_i l hl;split at h;rename_i hb;obtain⟨h1,h2⟩:=YQ h;obtain h1:=aq h1;exact .inr ⟨h2,by simp[iw,hu],.inr ⟨n,e,l,hu,hl,aN hb,h1.symm⟩⟩;simp_all;simp_all
theorem wY {P:Program}{d:Nat}{t:TypeId}{L:List gZ}(h:fB P d t=some L):∃q i,P.underlying t=some q/\P.info? t=some i:=by
 cases d with
 |zero=>simp[fB]at h
 |succ d=>
  have :∃q,P.underlying t=some q:=by rcases ru h with⟨l,-,-,⟨h,-⟩|⟨k,h,-⟩|⟨h,-⟩⟩|⟨-,-,⟨fs,h,-⟩|⟨n,e,l,h,-⟩⟩;all_goals simp_all
  obtain⟨q,hq⟩:=this;obtain⟨i,hi⟩:=info_of_underlying hq;simp_all
theorem pL {P:Program}{w:World}{d:Nat}{e:TypeId}{L:List gZ}{A x B:List AV}{off:Nat}(h:fB P d e=some L)(hA:A.length=off)(hx:fU L x=true):(part e ((A++(x++B)).map AV.cell).toArray off).run P w=.ok (tv (iw P e) x) w:=by
 obtain⟨q,i,hq,hi⟩:=wY h;cases d with
 |zero=>simp[fB]at h
 |succ d=>refine SX hq (λha=>⟨?_,i,hi⟩) (λha=>?_) hA hx;rcases ru h with⟨l,-,h2,-⟩|⟨h2,-,-⟩;simp_all;omega;rcases ru h with⟨l,rfl,-,-⟩|⟨-,h2,-⟩;rfl;simp_all
theorem EO {P:Program}:∀(d:Nat),(∀(t:TypeId)(L:List gZ)(D:Nat)(w:World)(xs ys:List AV),d<=D->fB P d t=some L->fU L xs=true->fU L ys=true->(Op.equalIn D t (tv (iw P t) xs) (tv (iw P t) ys)).run P w=.ok (sameAs xs ys) w)/\(∀(fs:List Field)(off:Nat)(L:List gZ)(D:Nat)(w:World)(A A' xs ys:List AV),d<=D->oH P d off fs=some L->A.length=off->A'.length=off->fU L xs=true->fU L ys=true->(Op.eqFields D ((A++xs).map AV.cell).toArray ((A'++ys).map AV.cell).toArray fs).run P w=.ok (sameAs xs ys) w)
 |0=>⟨λt L D w xs ys _ h=>by simp[fB]at h,λfs off L D w A A' xs ys _ h=>by simp[oH]at h⟩
 |d+1=>by
  obtain⟨ih1,ih2⟩:=EO d;constructor;intro t L D w xs ys hD h hx hy;obtain⟨D,rfl⟩:∃D',D=D'+1:=⟨D-1,oO⟩;rcases ru h with⟨l,rfl,ha,hu⟩|⟨hc,ha,⟨fs,hu,hs,hf⟩|⟨n,e,l,hu,hl,hce,rfl⟩⟩;rw[ha];match xs,ys,jt hx,jt hy with
   |[x],[y],_,_=>
    have hx':l.fits x=true:=by simp only[fU]at hx;split at hx;assumption;cases hx
    have hy':l.fits y=true:=by simp only[fU]at hy;split at hy;assumption;cases hy
    have :=adx (w:=w) (d:=D) hu hx' hy';simpa[tv,sameAs]using this
  rw[ha];have hfs:P.fieldsOf t=fs:=by simp[Program.fieldsOf,hu]
  simp only[tv];rw[run_equalIn_struct w D t _ _ (by rw[hfs];exact hu) hs,hfs];exact ih2 fs.toList 0 L D w [] [] xs ys oO hf rfl rfl hx hy;rw[ha];obtain⟨q,i,hq,hi⟩:=wY hl;simp only[tv];rw[run_equalIn_array w D _ _ hu hi];have key:∀(k j:Nat)(A A' xs ys:List AV),A.length=j*P.cellsOf e->A'.length=j*P.cellsOf e->fU (List.replicate k l).flatten xs=true->fU (List.replicate k l).flatten ys=true->(Op.eqItems D e (P.cellsOf e) ((A++xs).map AV.cell).toArray ((A'++ys).map AV.cell).toArray (List.range' j k)).run P w=.ok (sameAs xs ys) w:=by
   intro k;induction k with
   |zero=>intro j A A' xs ys _ _ hx hy;have e1:xs=[]:=ck.1 (jt hx);have e2:ys=[]:=ck.1 (jt hy);subst e1 e2;rfl
   |succ k ihk=>
    intro j A A' xs ys hA hA' hx hy;rw[List.replicate_succ,nU]at hx hy;obtain⟨x1,x2,rfl,hx1,hx2⟩:=vW hx;obtain⟨y1,y2,rfl,hy1,hy2⟩:=vW hy;rw[List.range'_succ];simp only[Op.eqItems,Sem.run_bind,pL hl hA hx1,pL hl hA' hy1,Result.andThen_ok,ih1 e l D w x1 y1 oO hl hx1 hy1,Ib hx1 hy1];cases hs:sameAs x1 y1 with
    |false=>simp
    |true=>have :=ihk (j+1) (A++x1) (A'++y1) x2 y2 (by rw[aA,hA,jt hx1,bK,kR,hce]) (by rw[aA,hA',jt hy1,bK,kR,hce]) hx2 hy2;simp_all
  have :=key n 0 [] [] xs ys (by simp) (by simp) hx hy;rw[CY];simp_all;intro fs off L D w A A' xs ys hD h hA hA' hx hy;cases fs with
  |nil=>simp only[oH,bN]at h;subst h;have e1:xs=[]:=ck.1 (jt hx);have e2:ys=[]:=ck.1 (jt hy);subst e1 e2;rfl
  |cons f fs=>
   simp only[oH]at h;split at h;rename_i hn ho;split at h;grind;rename_i l hl;split at h;grind;rename_i r hr;obtain rfl:=aq h;obtain⟨x1,x2,rfl,hx1,hx2⟩:=vW hx;obtain⟨y1,y2,rfl,hy1,hy2⟩:=vW hy;have ho:=aN ho;have hn':f.name≠ "_" :=by simpa using hn
   simp only[Op.eqFields,hn',ne_eq,not_false_eq_true,if_true,Sem.run_bind,pL hl (hA.trans ho.symm) hx1,pL hl (hA'.trans ho.symm) hy1,Result.andThen_ok,ih1 f.type l D w x1 y1 oO hl hx1 hy1,Ib hx1 hy1];cases hs:sameAs x1 y1 with
   |false=>simp
   |true=>have :=ih2 fs (off+l.length) r D w (A++x1) (A'++y1) x2 y2 oO hr (by rw[aA,hA,jt hx1]) (by rw[aA,hA',jt hy1]) hx2 hy2;simp_all
   simp_all
theorem gZ.rep {br:Nat->Nat->Prop}{w:World}{v:Value}{l:gZ}{x:AV}(h:dH br w v x)(hl:l.fits x=true):v=x.cell:=by cases h<;>cases l<;>first|rfl|(simp[gZ.fits]at hl)
theorem PL {br:Nat->Nat->Prop}{w:World}:∀(L:List gZ)(cs:List Value)(xs:List AV),cs.length=xs.length->fU L xs=true->(∀(i:Nat)(c:Value)(x:AV),cs[i]?=some c->xs[i]?=some x->dH br w c x)->cs=xs.map AV.cell
 |[],cs,xs,hl,hf,_=>by have e2:xs=[]:=ck.1 (jt hf);simp_all
 |l::L,cs,[],hl,hf,hr=>by simp_all
 |l::L,[],x::xs,hl,hf,hr=>by simp_all
 |l::L,c::cs,x::xs,hl,hf,hr=>by simp only[fU]at hf;split at hf;rename_i hx;rw[bB,gZ.rep (hr 0 c x rfl rfl) hx,PL L cs xs (by simp_all) hf (λi c x h1 h2=>hr (i+1) c x (by simp_all) (by simp_all))];simp_all
theorem mo {agg:Bool}{L:List gZ}{x:AV}(h:iJ agg L x=true):fU L x.cells=true:=by cases agg<;>cases x<;>first|exact h|(simp[iJ]at h)
theorem tZ {br:Nat->Nat->Prop}{w:World}{v:Value}{agg:Bool}{L:List gZ}{x:AV}(h:dH br w v x)(hf:iJ agg L x=true):v=tv agg x.cells:=by
 cases agg with
 |true=>
  cases h with
  |agg cs xs hl ho hr=>have :=PL L cs xs hl hf hr;rw[this];rfl
  |_=>simp[iJ]at hf
 |false=>
  have hf':=mo hf;cases h with
  |agg cs xs hl ho hr=>simp[iJ]at hf
  |_=>
   all_goals
    simp only[AV.cells]at hf';match L,hf' with
     |[],hf'=>simp[fU]at hf'
     |[l],hf'=>
      simp only[fU]at hf';split at hf';rename_i hx;cases l<;>first|rfl|(simp[gZ.fits]at hx)
      cases hf'
     |_::_::_,hf'=>simp only[fU]at hf';split at hf'<;>cases hf'
theorem PM {agg:Bool}{L:List gZ}{x y:AV}(hx:iJ agg L x=true)(hy:iJ agg L y=true):qW x y=sameAs x.cells y.cells:=by
 cases agg with
 |true=>
  cases x<;>first|(simp[iJ]at hx;done)|skip
  cases y<;>first|(simp[iJ]at hy;done)|skip
  rfl
 |false=>
  cases x<;>first|(simp[iJ]at hx;done)|skip
  all_goals cases y<;>first|(simp[iJ]at hy;done)|simp[qW,AV.cells,sameAs]
theorem Lw {x y:AV}(h:sD x y=true):x=y:=by cases x<;>cases y<;>simp only[sD]at h<;>first|(simp at h;subst h;rfl)|(simp only[bn,beq_iff_eq]at h;obtain⟨h1,h2⟩:=h;rw[rX h1,h2])|cases h
theorem Lx:∀{xs ys:List AV},sameAs xs ys=true->xs=ys
 |[],[],_=>rfl
 |[],_::_,h=>by simp[sameAs]at h
 |_::_,[],h=>by simp[sameAs]at h
 |x::xs,y::ys,h=>by simp only[sameAs,bn]at h;rw[Lw h.1,Lx h.2]
theorem Zx {x y:AV}(h:qW x y=true):x=y:=by unfold qW at h;split at h;rw[Lx h];exact Lw h
theorem SY {P:Program}{w:World}{d:Nat}{em:Bool}{t:TypeId}{l:gZ}{x:AV}(hu:(P.underlying t=some .bool/\l=.bool)\/(∃k,P.underlying t=some (.int k)/\l=.int k)\/(P.underlying t=some .string/\l=.str))(hx:l.fits x=true):(Instr.checkKey em (d+1) t x.cell).run P w=.ok () w:=by unfold Instr.checkKey;rcases hu with⟨hu,rfl⟩|⟨k,hu,rfl⟩|⟨hu,rfl⟩;all_goals cases x<;>simp[gZ.fits]at hx;simp[AV.cell,run_underlying hu]
def ua (em:Bool)(D:Nat)(xs:Array Value):List Field->Sem Unit|[]=>pure ()|f::fs=>if f.name≠ "_" then do let a<-part f.type xs f.offset;Instr.checkKey em D f.type a;ua em D xs fs else ua em D xs fs
def zf (em:Bool)(D:Nat)(e:TypeId)(c:Nat)(xs:Array Value):List Nat->Sem Unit|[]=>pure ()|i::is=>do let a<-part e xs (i*c);Instr.checkKey em D e a;zf em D e c xs is
theorem Ic {P:Program}{w:World}{em:Bool}{D:Nat}{t:TypeId}{fs:Array Field}(xs:Array Value)(hu:P.underlying t=some (.struct fs)):(Instr.checkKey em (D+1) t (.agg xs)).run P w=(ua em D xs fs.toList).run P w:=by
 unfold Instr.checkKey;simp only[Sem.run_bind,run_underlying hu,Result.andThen_ok];rw[<-Array.forIn_toList];generalize fs.toList=fs;clear hu;induction fs generalizing w with
 |nil=>rfl
 |cons f fs ih=>
  simp only[List.forIn_cons,ua,Sem.run_bind,Sem.run_ite];split;generalize(part f.type xs f.offset).run P w=r1;cases r1 with
  |ok a w1=>
   simp only[Result.andThen_ok];generalize(Instr.checkKey em D f.type a).run P w1=r2;cases r2 with
   |ok b w2=>simp_all
   |halt x w2=>rfl
  |halt x w1=>rfl
  simp_all
theorem Ky {P:Program}{w:World}{em:Bool}{D:Nat}{t e:TypeId}{n:Nat}{i:TypeInfo}(xs:Array Value)(hu:P.underlying t=some (.array n e))(hi:P.info? e=some i):(Instr.checkKey em (D+1) t (.agg xs)).run P w=(zf em D e (P.cellsOf e) xs (List.range n)).run P w:=by
 unfold Instr.checkKey;simp only[Sem.run_bind,run_underlying hu,Result.andThen_ok];simp only[Std.Legacy.Range.forIn_eq_forIn_range',Std.Legacy.Range.size,Nat.sub_zero,Nat.add_one_sub_one,Nat.div_one,CY];generalize List.range' 0 n=is;clear hu;induction is generalizing w with
 |nil=>rfl
 |cons j is ih=>
  simp only[List.forIn_cons,zf,Sem.run_bind,run_sizeOf w hi,Result.andThen_ok];generalize(part e xs (j*P.cellsOf e)).run P w=r1;cases r1 with
  |ok a w1=>
   simp only[Result.andThen_ok];generalize(Instr.checkKey em D e a).run P w1=r2;cases r2 with
   |ok b w2=>simp_all
   |halt x w2=>rfl
  |halt x w1=>rfl
theorem td {P:Program}{em:Bool}:∀(d:Nat),(∀(t:TypeId)(L:List gZ)(D:Nat)(w:World)(xs:List AV),d<=D->fB P d t=some L->fU L xs=true->(Instr.checkKey em D t (tv (iw P t) xs)).run P w=.ok () w)/\(∀(fs:List Field)(off:Nat)(L:List gZ)(D:Nat)(w:World)(A xs:List AV),d<=D->oH P d off fs=some L->A.length=off->fU L xs=true->(ua em D ((A++xs).map AV.cell).toArray fs).run P w=.ok () w)
 |0=>⟨λt L D w xs _ h=>by simp[fB]at h,λfs off L D w A xs _ h=>by simp[oH]at h⟩
 |d+1=>by
  obtain⟨ih1,ih2⟩:=td (P:=P) (em:=em) d;constructor;intro t L D w xs hD h hx;obtain⟨D,rfl⟩:∃D',D=D'+1:=⟨D-1,oO⟩;rcases ru h with⟨l,rfl,ha,hu⟩|⟨hc,ha,⟨fs,hu,hs,hf⟩|⟨n,e,l,hu,hl,hce,rfl⟩⟩;rw[ha];match xs,jt hx with
   |[x],_=>
    have hx':l.fits x=true:=by simp only[fU]at hx;split at hx;omega;grind
    exact SY hu hx'
  rw[ha];simp only[tv];rw[Ic _ hu];exact ih2 fs.toList 0 L D w [] xs oO hf rfl hx;rw[ha];obtain⟨q,i,hq,hi⟩:=wY hl;simp only[tv];rw[Ky _ hu hi];have key:∀(k j:Nat)(A xs:List AV),A.length=j*P.cellsOf e->fU (List.replicate k l).flatten xs=true->(zf em D e (P.cellsOf e) ((A++xs).map AV.cell).toArray (List.range' j k)).run P w=.ok () w:=by
   intro k;induction k with
   |zero=>intro j A xs _ _;rfl
   |succ k ihk=>intro j A xs hA hx;rw[List.replicate_succ,nU]at hx;obtain⟨x1,x2,rfl,hx1,hx2⟩:=vW hx;rw[List.range'_succ];simp only[zf,Sem.run_bind,Result.andThen_ok,pL hl hA hx1,ih1 e l D w x1 oO hl hx1];have :=ihk (j+1) (A++x1) x2 (by rw[aA,hA,jt hx1,bK,kR,hce]) hx2;simp_all
  have :=key n 0 [] xs (by simp) hx;rw[CY];simp_all;intro fs off L D w A xs hD h hA hx;cases fs with
  |nil=>rfl
  |cons f fs=>
   simp only[oH]at h;split at h;rename_i hn ho;split at h;grind;rename_i l hl;split at h;grind;rename_i r hr;obtain rfl:=aq h;obtain⟨x1,x2,rfl,hx1,hx2⟩:=vW hx;have ho:=aN ho;have hn':f.name≠ "_" :=by simpa using hn
   have :=ih2 fs (off+l.length) r D w (A++x1) x2 oO hr (by rw[aA,hA,jt hx1]) hx2;rw[bq]at this;simp only[ua,hn',ne_eq,not_false_eq_true,if_true,Sem.run_bind,pL hl (hA.trans ho.symm) hx1,Result.andThen_ok,ih1 f.type l D w x1 oO hl hx1];omega;simp_all
def iL (k:AV):List AV->Option Nat|[]=>none|x::xs=>match qW k x with|true=>some 0|false=>(iL k xs).map (·+1)
def tf (agg:Bool)(L:List gZ)(es:List MapEntry)(ks:List AV):Prop:=es.length=ks.length/\∀(i:Nat)(e:MapEntry)(x:AV),es[i]?=some e->ks[i]?=some x->e.key=tv agg x.cells/\iJ agg L x=true
theorem tf.tail {agg:Bool}{L:List gZ}{e:MapEntry}{es:List MapEntry}{x:AV}{ks:List AV}(h:tf agg L (e::es) (x::ks)):e.key=tv agg x.cells/\iJ agg L x=true/\tf agg L es ks:=⟨(h.2 0 e x rfl rfl).1,(h.2 0 e x rfl rfl).2,by simpa using h.1,λi e' x' h1 h2=>h.2 (i+1) e' x' (by simp_all) (by simp_all)⟩
def found (es:List MapEntry)(i:Nat)(o:Option Nat):Option (Nat×Value):=o.bind λj=>(es[j]?).map λe=>(i+j,e.val)
theorem Ie (e:MapEntry)(es:List MapEntry)(i:Nat)(o:Option Nat):found (e::es) i (o.map (·+1))=found es (i+1) o:=by
 cases o with
 |none=>rfl
 |some j=>simp[found,fL,nV 1]
theorem zg {P:Program}{w:World}{t:TypeId}{d:Nat}{L:List gZ}(hd:d<=10000)(hL:fB P d t=some L){k:AV}(hk:iJ (iw P t) L k=true):∀(es:List MapEntry)(ks:List AV)(i:Nat),tf (iw P t) L es ks->(Instr.findAsking t (tv (iw P t) k.cells) es i).run P w=.ok (found es i (iL k ks)) w
 |[],ks,i,h=>by have :ks=[]:=ck.1 h.1.symm;subst this;rfl
 |e::es,[],i,h=>by have :=h.1;simp_all
 |e::es,x::ks,i,h=>by
  obtain⟨h1,h2,h3⟩:=h.tail;have heq:=(EO d).1 t L 10000 w k.cells x.cells hd hL (mo hk) (mo h2);have heq':(Op.equal t (tv (iw P t) k.cells) e.key).run P w=.ok (qW k x) w:=by rw[h1,PM hk h2];exact heq
  simp only[Instr.findAsking,Sem.run_bind,heq',Result.andThen_ok,iL];cases hs:qW k x with
  |true=>rfl
  |false=>have :=zg (w:=w) hd hL hk es ks (i+1) h3;simp only[tc,if_false,this,Ie]
theorem PN {l:gZ}{k:AV}(h:iJ false [l] k=true):l.fits k=true:=by
 cases k<;>first|(simp[iJ]at h;done)|skip
 all_goals have :=mo h;simp only[AV.cells,fU]at this;split at this;assumption;cases this
theorem Ly {P:Program}{t:TypeId}{q:TypeDesc}{l:gZ}(hu:P.underlying t=some q)(ha:iw P t=false)(hl:(P.underlying t=some .bool/\l=.bool)\/(∃k,P.underlying t=some (.int k)/\l=.int k)\/(P.underlying t=some .string/\l=.str)){k:AV}(hk:iJ false [l] k=true):∀(es:List MapEntry)(ks:List AV)(i:Nat),tf false [l] es ks->Instr.findNow q (tv false k.cells) es i=some (found es i (iL k ks))
 |[],ks,i,h=>by have :ks=[]:=ck.1 h.1.symm;subst this;rfl
 |e::es,[],i,h=>by have :=h.1;simp_all
 |e::es,x::ks,i,h=>by
  obtain⟨h1,h2,h3⟩:=h.tail;have hs:Instr.sameNow q (tv false k.cells) e.key=some (qW k x):=by
   rw[h1];have f1:=PN hk;have f2:=PN h2;rcases hl with⟨hl,rfl⟩|⟨kk,hl,rfl⟩|⟨hl,rfl⟩;all_goals
    rw[hu]at hl;obtain rfl:=aq hl;cases k<;>first|(simp[gZ.fits]at f1;done)|skip
    cases x<;>first|(simp[gZ.fits]at f2;done)|skip
   rfl;simp only[gZ.fits]at f1 f2;obtain rfl:=rX f1;obtain rfl:=rX f2;simp[tv,AV.cells,AV.cell,Instr.sameNow,qW,sD,Ia];simp only[tv,AV.cells,AV.cell,Instr.sameNow,qW,sD,bB,fM,List.headD_cons,beq_toListBytes];simp_all
  simp only[Instr.findNow,hs,iL];cases hq:qW k x with
  |true=>rfl
  |false=>have :=Ly hu ha hl hk es ks (i+1) h3;simp only[this,Ie]
theorem wZ {P:Program}{w:World}{t:TypeId}{d:Nat}{L:List gZ}(hd:d<=10000)(hL:fB P d t=some L){k:AV}(hk:iJ (iw P t) L k=true){es:List MapEntry}{ks:List AV}(h:tf (iw P t) L es ks):(Instr.findKey t (tv (iw P t) k.cells) es).run P w=.ok (found es 0 (iL k ks)) w:=by
 obtain⟨q,i,hq,hi⟩:=wY hL;cases d with
 |zero=>simp[fB]at hL
 |succ d=>
  rcases ru hL with⟨l,rfl,ha,hu⟩|⟨hc,ha,hu⟩;rw[ha]at hk h⊢;simp only[Instr.findKey,Sem.run_bind,run_underlying hq,Result.andThen_ok,Ly hq ha hu hk es ks 0 h,Sem.run_pure];have ank:=zg (w:=w) hd hL hk es ks 0 h;have akG:Instr.findNow q (tv (iw P t) k.cells) es 0=(match es with|[]=>some none|_::_=>none):=by
   cases es with
   |nil=>rfl
   |cons e es=>rcases hu with⟨fs,hu,-⟩|⟨n,e',l,hu,-⟩;all_goals rw[hq]at hu;obtain rfl:=aq hu;rfl
  simp only[Instr.findKey,Sem.run_bind,run_underlying hq,Result.andThen_ok,akG];cases es with
  |nil=>have :ks=[]:=ck.1 h.1.symm;subst this;rfl
  |cons e es=>omega
theorem Bo {l:gZ}{x:AV}(h:l.fits x=true)(n:Nat):Instr.sameBits n x.cell x.cell=true:=by cases l<;>cases x<;>simp[gZ.fits]at h<;>cases n<;>simp[AV.cell,Instr.sameBits,beq_toListBytes]
theorem CZ {p:Value->Value->Bool}:∀(xs:List Value),(∀x,x∈xs->p x x=true)->((xs.zip xs).all λ(a,b)=>p a b)=true|[],_=>rfl|x::xs,h=>by simp only[List.zip_cons_cons,tg,h x (by simp),gO];exact CZ xs λy hy=>h y (by grind)
theorem PO {agg:Bool}{L:List gZ}{x:AV}(h:iJ agg L x=true)(n:Nat):Instr.sameBits (n+1) (tv agg x.cells) (tv agg x.cells)=true:=by
 have hc:=mo h;cases agg with
 |true=>
  have hall:∀{L:List gZ}{xs:List AV},fU L xs=true->∀y∈xs,∃l:gZ,l.fits y=true:=by
   intro L;induction L with
   |nil=>intro xs h y hy;have :=ck.1 (jt h);simp_all
   |cons l L ih=>
    intro xs h y hy;cases xs with
    |nil=>simp_all
    |cons x xs=>simp only[fU]at h;grind
  simp only[tv,Instr.sameBits,beq_self_eq_true,gO];refine CZ (p:=Instr.sameBits n) _ λy hy=>?_;obtain⟨z,hz,rfl⟩:=aJ.1 (by simpa using hy);obtain⟨l,hl⟩:=hall hc z hz;exact Bo hl n
 |false=>
  cases x<;>first|(simp[iJ]at h;done)|skip
  all_goals
   simp only[AV.cells]at hc;match L,hc with
    |[],hc=>simp[fU]at hc
    |[l],hc=>simp only[fU]at hc;split at hc;rename_i hx;exact Bo hx _;cases hc
    |_::_::_,hc=>simp only[fU]at hc;split at hc<;>cases hc
theorem Da {P:Program}{w:World}{agg:Bool}{L:List gZ}{x:AV}(h:iJ agg L x=true):(Instr.keyThatStays (tv agg x.cells) (tv agg x.cells)).run P w=.ok (tv agg x.cells) w:=by unfold Instr.keyThatStays;rw[PO h];rfl
theorem SZ {l:List (TypeId×jV)}{t:TypeId}{i:jV}(h:bV l t=some i):(t,i)∈l:=by
 induction l with
 |nil=>cases h
 |cons p l ih=>obtain⟨u,j⟩:=p;simp only[bV]at h;split at h;simp_all;simp_all
theorem Ctx.ok (C:Ctx){t:TypeId}{i:jV}(h:bV C.jE t=some i):gj C.P t i:=C.afE t i (SZ h)
theorem gj.info' {P:Program}{t:TypeId}{i:jV}(h:gj P t i):∃inf z,P.info? t=some inf/\inf.size=i.size/\inf.bytes=i.bytes/\inf.zero=some z/\z.cells.toList=i.zero:=by have :=h.info;simp_all
theorem gj.zh {P:Program}{t:TypeId}{i:jV}(h:gj P t i):∃d,P.underlying t=some d/\shapeOf d=i.shape:=by have :=h.und;simp_all
theorem gj.sizeOf {P:Program}{t:TypeId}{i:jV}(h:gj P t i)(w:World):(Go.sizeOf t).run P w=.ok i.size w:=by obtain⟨inf,z,h1,h2,-⟩:=h.info';simp[Go.sizeOf,run_typeInfo w h1,h2]
theorem gj.isAgg {P:Program}{t:TypeId}{i:jV}(h:gj P t i)(w:World):(Go.isAgg t).run P w=.ok i.shape.isAgg w:=by obtain⟨d,h1,h2⟩:=h.zh;simp only[Go.isAgg,Sem.run_bind,run_underlying h1,Result.andThen_ok];rw[<-h2];cases d<;>rfl
theorem gj.iw {P:Program}{t:TypeId}{i:jV}(h:gj P t i):Qv.iw P t=i.shape.isAgg:=by obtain⟨d,h1,h2⟩:=h.zh;rw[<-h2];unfold Qv.iw;rw[h1];cases d<;>rfl
theorem gj.slice {P:Program}{t e:TypeId}{a b:Nat}{z:List Value}(h:gj P t ⟨a,b,.slice e,z⟩):P.underlying t=some (.slice e):=by obtain⟨d,h1,h2⟩:=h.zh;cases d<;>simp[shapeOf]at h2;simp_all
theorem gj.array {P:Program}{t e:TypeId}{a b n:Nat}{z:List Value}(h:gj P t ⟨a,b,.array n e,z⟩):P.underlying t=some (.array n e):=by obtain⟨d,h1,h2⟩:=h.zh;cases d<;>simp[shapeOf]at h2;simp_all
theorem gj.str {P:Program}{t:TypeId}{a b:Nat}{z:List Value}(h:gj P t ⟨a,b,.str,z⟩):P.underlying t=some .string:=by obtain⟨d,h1,h2⟩:=h.zh;cases d<;>simp[shapeOf]at h2;omega
theorem gj.bool {P:Program}{t:TypeId}{a b:Nat}{z:List Value}(h:gj P t ⟨a,b,.bool,z⟩):P.underlying t=some .bool:=by obtain⟨d,h1,h2⟩:=h.zh;cases d<;>simp[shapeOf]at h2;omega
theorem gj.int {P:Program}{t:TypeId}{a b:Nat}{k:IntKind}{z:List Value}(h:gj P t ⟨a,b,.int k,z⟩):P.underlying t=some (.int k):=by obtain⟨d,h1,h2⟩:=h.zh;cases d<;>simp[shapeOf]at h2;simp_all
theorem gj.struct {P:Program}{t:TypeId}{a b:Nat}{fs:List (Nat×TypeId)}{z:List Value}(h:gj P t ⟨a,b,.struct fs,z⟩):∃gs,P.underlying t=some (.struct gs)/\fs=gs.toList.map λf=>(f.offset,f.type):=by obtain⟨d,h1,h2⟩:=h.zh;cases d<;>simp[shapeOf]at h2;simp_all
theorem gj.ptr {P:Program}{t e:TypeId}{a b:Nat}{z:List Value}(h:gj P t ⟨a,b,.ptr e,z⟩):P.underlying t=some (.pointer e):=by obtain⟨d,h1,h2⟩:=h.zh;cases d<;>simp[shapeOf]at h2;simp_all
theorem EP {P:Program}{w:World}{t e:TypeId}(d:Nat)(p:Option Addr)(h:P.underlying t=some (.pointer e)):(Op.equalIn (d+1) t (.pointer p) (.pointer none)).run P w=.ok p.isNone w:=by cases p<;>simp[Op.equalIn,run_underlying h]
theorem qg {P:Program}{w:World}{t e:TypeId}(p:Option Addr)(h:P.underlying t=some (.pointer e)):(Op.equal t (.pointer p) (.pointer none)).run P w=.ok p.isNone w:=EP 9999 p h
theorem Db {P:Program}{w:World}{t e:TypeId}{i:jV}(d:Nat)(p:Addr)(h:P.underlying t=some (.pointer e))(hi:gj P e i):(Op.equalIn (d+1) t (.pointer (some p)) (.pointer (some p))).run P w=.ok true w:=by have hso:=hi.sizeOf w;simp only[Op.equalIn,Sem.run_bind,run_underlying h,Result.andThen_ok,hso,sameAddr];simp_all
theorem yw {P:Program}{w:World}{t e:TypeId}{i:jV}(p:Addr)(h:P.underlying t=some (.pointer e))(hi:gj P e i):(Op.equal t (.pointer (some p)) (.pointer (some p))).run P w=.ok true w:=Db 9999 p h hi
theorem nE {α:Type}(n:Nat)(xs:List α):gC n xs=xs.drop n:=by
 induction n generalizing xs with
 |zero=>rfl
 |succ n ih=>cases xs<;>simp[gC,ih]
theorem mE {α:Type}{n:Nat}{xs:List α}{y:α}{ys:List α}(h:gC n xs=y::ys):xs[n]?=some y:=by rw[nE]at h;have :=aY (·[0]?) h;grind
theorem xb {n:Nat}{xs cs:List FV}(h:takeN n xs=some cs):cs=xs.take n/\n<=xs.length:=by
 induction n generalizing xs cs with
 |zero=>simp[takeN]at h;grind
 |succ n ih=>
  cases xs with
  |nil=>simp[takeN]at h
  |cons x xs=>simp only[takeN]at h;grind
theorem BN {n:Nat}{xs cs:List AV}(h:FL n xs=some cs):cs=xs.take n/\n<=xs.length:=by
 induction n generalizing xs cs with
 |zero=>simp[FL]at h;grind
 |succ n ih=>
  cases xs with
  |nil=>simp[FL]at h
  |cons x xs=>simp only[FL]at h;grind
theorem gj.field {P:Program}{s:TypeId}{a b f:Nat}{fs:List (Nat×TypeId)}{z:List Value}{o:Nat}{t:TypeId}{r:List (Nat×TypeId)}(h:gj P s ⟨a,b,.struct fs,z⟩)(hd:gC f fs=(o,t)::r):∃(gs:Array Field) (g:Field),P.underlying s=some (.struct gs)/\gs[f]?=some g/\g.offset=o/\g.type=t:=by obtain⟨gs,h1,h2⟩:=h.struct;have h3:=mE hd;simp_all
section
variable {br:Nat->Nat->Prop}{w:World}{v:Value}{G:bl}
theorem dH.gh {k:IntKind}{n:Int}(h:dH br w v (.int k n)):v=.int k n:=by cases h;rfl
theorem dH.nF {b:Bool}(h:dH br w v (.bool b)):v=.bool b:=by cases h;rfl
theorem dH.kq {s:List UInt8}(h:dH br w v (.str s)):v=.string ⟨s.toArray⟩:=by cases h;rfl
theorem aU.gh {k:IntKind}{n:Int}(h:aU G w v (.p (.int k n))):v=.int k n:=by
 cases h with
 |p _ _ h=>exact h.gh
theorem aU.Ig (h:aU G w v (.p .yU)):v=.pointer none:=by
 cases h with
 |p _ _ h=>cases h;rfl
theorem aU.nF {b:Bool}(h:aU G w v (.p (.bool b))):v=.bool b:=by
 cases h with
 |p _ _ h=>exact h.nF
theorem aU.kq {s:List UInt8}(h:aU G w v (.p (.str s))):v=.string ⟨s.toArray⟩:=by
 cases h with
 |p _ _ h=>exact h.kq
theorem aU.plain {x:AV}(h:aU G w v (.p x)):dH G.br w v x:=by
 cases h with
 |p _ _ h=>omega
theorem aU.WH (h:aU G w v (.p (.eN []))):v=undef:=by
 cases h with
 |p _ _ h=>
  cases h with
  |eN cs xs hl h=>have :cs=[]:=ck.1 oO;subst this;rfl
theorem aU.oT {o off:Nat}(h:aU G w v (.ptr o off)):∃b,v=.pointer (some ⟨b,off,none⟩)/\G.loc o=some b:=by
 cases h with
 |ptr _ _ b h=>simp_all
theorem aU.Hq {o bP:Nat}{T:TypeId}(h:aU G w v (.gH o T bP)):∃n c b,v=.slice (some ⟨b,0,none⟩) n c/\G.loc o=some b/\G.tail o=some (b,n*bP,c*bP,T)/\n<=c/\0<bP:=by
 cases h with
 |gH _ _ _ n c b h1 h2 h3 h4=>grind
theorem dH.lG {xs:List (List AV)}(h:dH br w v (.sl xs)):∃a c,v=.slice a xs.length c/\xs.length<=c/\(xs≠[]->∃(b off bP:Nat) (cell:Nat->Nat->Value),a=some ⟨b,off,none⟩/\(∀(i:Nat)(ys:List AV),xs[i]?=some ys->ys.length=bP)/\(∀(i:Nat)(ys:List AV)(j:Nat)(y:AV),xs[i]?=some ys->ys[j]?=some y->y.one=true/\w.cell? ⟨b,off+i*bP+j,none⟩=some (cell i j)/\br b (off+i*bP+j)/\dH br w (cell i j) y)):=by
 cases h with
 |Vg a c=>simp_all
 |sl b off c bP xs cell h1 h2 h3 h4 h5 h6=>exact⟨_,c,rfl,h6,λ_=>⟨b,off,bP,cell,rfl,h1,λi ys j y a b=>⟨h2 i ys j y a b,h3 i ys j y a b,h4 i ys j y a b,h5 i ys j y a b⟩⟩⟩
theorem aU.elems {x:FV}{xs:List (List AV)}(hx:x.elems=some xs)(h:aU G w v x):dH G.br w v (.sl xs):=by
 cases x with
 |p y=>cases y<;>simp[FV.elems]at hx;subst hx;exact h.plain
 |gd t T e ys=>simp only[FV.elems,bN]at hx;subst hx;exact h.fA rfl
 |full ys=>simp only[FV.elems,bN]at hx;subst hx;exact h.fA rfl
 |_=>simp[FV.elems]at hx
theorem dH.Dc {xs:List AV}(h:dH br w v (.imp xs)):∃b off,v=.pointer (some ⟨b,off,none⟩)/\∀(j:Nat)(y:AV),xs[j]?=some y->∃c,y.one=true/\w.cell? ⟨b,off+j,none⟩=some c/\br b (off+j)/\dH br w c y:=by
 cases h with
 |imp b off xs cell h2 h3 h4 h5=>grind
theorem dH.Ta {xs:List AV}{b off:Nat}(h:∀(j:Nat)(y:AV),xs[j]?=some y->∃c,y.one=true/\w.cell? ⟨b,off+j,none⟩=some c/\br b (off+j)/\dH br w c y):dH br w (.pointer (some ⟨b,off,none⟩)) (.imp xs):=by refine .imp b off xs (λj=>(w.cell? ⟨b,off+j,none⟩).getD undef) (λj y hy=>(h j y hy).choose_spec.1) (λj y hy=>?_) (λj y hy=>(h j y hy).choose_spec.2.2.1) (λj y hy=>?_);grind;grind
theorem dH.PR {xs:List (List AV)}{b off bP c:Nat}(hc:xs.length<=c)(h1:∀(i:Nat)(ys:List AV),xs[i]?=some ys->ys.length=bP)(h:∀(i:Nat)(ys:List AV)(j:Nat)(y:AV),xs[i]?=some ys->ys[j]?=some y->∃u,y.one=true/\w.cell? ⟨b,off+i*bP+j,none⟩=some u/\br b (off+i*bP+j)/\dH br w u y):dH br w (.slice (some ⟨b,off,none⟩) xs.length c) (.sl xs):=by refine .sl b off c bP xs (λi j=>(w.cell? ⟨b,off+i*bP+j,none⟩).getD undef) h1 (λi ys j y a a'=>(h i ys j y a a').choose_spec.1) (λi ys j y a a'=>?_) (λi ys j y a a'=>(h i ys j y a a').choose_spec.2.2.1) (λi ys j y a a'=>?_) hc;grind;grind
theorem dH.Zy {x:AV}(h:dH br w v x)(hx:x.one=true):v.oneCell'=true:=by cases h<;>first|rfl|(simp[AV.one]at hx)
theorem aU.Zy {x:FV}(h:aU G w v x)(hx:x.one=true):v.oneCell'=true:=by
 cases h with
 |p v x h=>exact h.Zy (by cases x<;>simp_all[FV.one,AV.one])
 |_=>first|rfl|(simp[FV.one]at hx)
end
section
variable {E:Env}{G:bl}{S:an}{a:Act}{w:World}{o:Oper}{K:FV->Prop}
def Yields (E:Env)(G:bl)(a:Act)(w:World)(o:Oper)(K:FV->Prop):Prop:=∃v x w',(execOp a.eval o).run E.C.P w=.ok (.value v) w'/\K x/\Below w.heap.size w w'/\aU {G with br:=λb o=>G.br b o\/(w.heap.size<=b/\b<w'.heap.size)} w' v x
theorem Yields.same {v:Value}{x:FV}(h:(execOp a.eval o).run E.C.P w=.ok (.value v) w)(hk:K x)(hr:aU G w v x):Yields E G a w o K:=⟨v,x,w,h,hk,Below.refl _ _,hr.keep (λ_ _ h=>.inl h) (λ_ _ _ _ h=>h) (.refl _ _) (λ_ _ h=>h) (λ_ _ h=>h)⟩
theorem ry {op:BinOp}{t yt:TypeId}{x y:Operand}{p q:Option Addr}{b:Bool}(ho:o.op=.binOp op t x y yt)(ex:a.eval x=.pointer p)(ey:a.eval y=.pointer q)(hq:(Op.equal t (.pointer p) (.pointer q)).run E.C.P w=.ok b w)(h:(op=.eql/\K (.p (.bool b)))\/(op=.neq/\K (.p (.bool (!b))))):Yields E G a w o K:=by
 have hg:∀op,(eqGuard op t x y (.pointer p) (.pointer q)).run E.C.P w=.ok () w:=by intro op;unfold eqGuard;split<;>simp
 rcases h with⟨rfl,h⟩|⟨rfl,h⟩;exact Yields.same (by simp[execOp,ho,ex,ey,hg,binOp,hq]) h (.p _ _ (.bool _));exact Yields.same (by simp[execOp,ho,ex,ey,hg,binOp,hq]) h (.p _ _ (.bool _))
theorem gj.iface {P:Program}{t:TypeId}{a b:Nat}{z:List Value}(h:gj P t ⟨a,b,.iface,z⟩):∃ms,P.underlying t=some (.interface ms):=by obtain⟨d,h1,h2⟩:=h.zh;cases d<;>simp[shapeOf]at h2;simp_all
theorem Kz {P:Program}{w:World}{t:TypeId}{ms:Array (String×TypeId)}(d:Nat)(v:Value)(b:Bool)(h:P.underlying t=some (.interface ms))(hv:v=.nilIface/\b=true\/(∃u x,v=.iface u x)/\b=false):(Op.equalIn (d+1) t v .nilIface).run P w=.ok b w:=by rcases hv with⟨rfl,rfl⟩|⟨⟨u,x,rfl⟩,rfl⟩<;>simp[Op.equalIn,run_underlying h]
theorem PS {P:Program}{w:World}{t:TypeId}{ms:Array (String×TypeId)}(v:Value)(b:Bool)(h:P.underlying t=some (.interface ms))(hv:v=.nilIface/\b=true\/(∃u x,v=.iface u x)/\b=false):(Op.equal t v .nilIface).run P w=.ok b w:=Kz 9999 v b h hv
theorem PT (hs:bA E G S a w){op:BinOp}{t yt:TypeId}{x y:Operand}(ho:o.op=.binOp op t x y yt)(hy:Nn y=true)(h:BJ E.C t op (S.val x) K):Yields E G a w o K:=by
 have hx:=aU.val hs x;generalize S.val x=vx at h hx;generalize hex:a.eval x=v at hx;unfold Nn at hy;split at hy;have ey:a.eval (.const .nilIface)=.nilIface:=rfl;have key:∀(b:Bool),(v=.nilIface/\b=true\/(∃u x,v=.iface u x)/\b=false)->(∃ms,E.C.P.underlying t=some (.interface ms))->((op=.eql/\K (.p (.bool b)))\/(op=.neq/\K (.p (.bool (!b)))))->Yields E G a w o K:=λb hv ⟨ms,hm⟩ hk=>by
  have hq:(Op.equal t v .nilIface).run E.C.P w=.ok b w:=PS v b hm hv;have hg:(eqGuard op t x (.const .nilIface) v .nilIface).run E.C.P w=.ok () w:=by rcases hv with⟨rfl,rfl⟩|⟨⟨u,z,rfl⟩,rfl⟩;unfold eqGuard;simp_all;unfold eqGuard;simp_all
  rcases hv with⟨rfl,rfl⟩|⟨⟨u,z,rfl⟩,rfl⟩;rcases hk with⟨rfl,hk⟩|⟨rfl,hk⟩;exact Yields.same (by simp[execOp,ho,hex,ey,hg,binOp,hq]) hk (.p _ _ (.bool _));exact Yields.same (by simp[execOp,ho,hex,ey,hg,binOp,hq]) hk (.p _ _ (.bool _));rcases hk with⟨rfl,hk⟩|⟨rfl,hk⟩;exact Yields.same (by simp[execOp,ho,hex,ey,hg,binOp,hq]) hk (.p _ _ (.bool _));exact Yields.same (by simp[execOp,ho,hex,ey,hg,binOp,hq]) hk (.p _ _ (.bool _))
 unfold BJ at h;split at h;rename_i ht;have hm:=(E.C.ok ht).iface;have akb:aU G w v (.p .uh)->v=.nilIface:=λh=>by
  cases h with
  |p _ _ h=>cases h;rfl
 have akH:∀{u:TypeId}{z:AV},aU G w v (.p (.iface u z))->∃u x,v=.iface u x:=λh=>by
  cases h with
  |p _ _ h=>cases h;simp_all
 grind;simp_all;simp_all
theorem PU {P:Program}{w:World}{t e:TypeId}(a:Option Addr)(n c:Nat)(h:P.underlying t=some (.slice e)):(Op.equal t (.slice a n c) (.slice none 0 0)).run P w=.ok a.isNone w:=by
 have :∀d,(Op.equalIn (d+1) t (.slice a n c) (.slice none 0 0)).run P w=.ok a.isNone w:=λd=>by cases a<;>simp[Op.equalIn,run_underlying h]
 exact this 9999
theorem PV (hs:bA E G S a w){op:BinOp}{t yt:TypeId}{x y:Operand}(ho:o.op=.binOp op t x y yt)(hy:No y=true)(h:Np E.C t op (S.val x) K):Yields E G a w o K:=by
 have hx:=aU.val hs x;generalize S.val x=vx at h hx;generalize hex:a.eval x=v at hx;unfold No at hy;split at hy;have ey:a.eval (.const (.slice none 0 0))=.slice none 0 0:=rfl;have key:∀(ad:Option Addr)(n c:Nat),v=.slice ad n c->(∃e,E.C.P.underlying t=some (.slice e))->((op=.eql/\K (.p (.bool ad.isNone)))\/(op=.neq/\K (.p (.bool (!ad.isNone)))))->Yields E G a w o K:=λad n c hv ⟨e,hm⟩ hk=>by
  subst hv;have hq:(Op.equal t (.slice ad n c) (.slice none 0 0)).run E.C.P w=.ok ad.isNone w:=PU ad n c hm;have hg:(eqGuard op t x (.const (.slice none 0 0)) (.slice ad n c) (.slice none 0 0)).run E.C.P w=.ok () w:=by unfold eqGuard;split<;>simp
  rcases hk with⟨rfl,hk⟩|⟨rfl,hk⟩;exact Yields.same (by simp[execOp,ho,hex,ey,hg,binOp,hq]) hk (.p _ _ (.bool _));exact Yields.same (by simp[execOp,ho,hex,ey,hg,binOp,hq]) hk (.p _ _ (.bool _))
 unfold Np at h;split at h;rename_i ht;have hm:=(E.C.ok ht).slice;split at h;obtain⟨n,c,b,rfl,-⟩:=hx.Hq;grind;split at h;simp_all;rename_i xs hxs;obtain⟨ad,c,rfl,-,hne⟩:=(hx.elems hxs).lG;have hsome:xs≠[]->ad.isNone=false:=λhn=>by grind
 split at h;exact key _ _ _ rfl ⟨_,hm⟩ (.inl ⟨rfl,h.out _ hsome⟩);exact key _ _ _ rfl ⟨_,hm⟩ (.inr ⟨rfl,h.out _ λhn=>by simp_all⟩);simp_all;simp_all;simp_all
theorem PW (hs:bA E G S a w){op:BinOp}{t yt:TypeId}{x y:Operand}{vx vy:FV}(ho:o.op=.binOp op t x y yt)(hx:aU G w (a.eval x) vx)(hy:aU G w (a.eval y) vy)(h:EH E.C t op vx vy K):Yields E G a w o K:=by
 unfold EH at h;split at h;simp_all;rename_i i hi;have hok:=E.C.ok hi;split at h;rename_i xs ys hagg hxs hys;obtain⟨L,hL,hg,f1,f2,h⟩:=h;have ha:iw E.C.P t=true:=by rw[hok.iw,hagg]
 have e1:a.eval x=tv true xs:=tZ (hx.fA hxs) (agg:=true) (L:=L) f1;have e2:a.eval y=tv true ys:=tZ (hy.fA hys) (agg:=true) (L:=L) f2;have hq:(Op.equal t (tv true xs) (tv true ys)).run E.C.P w=.ok (sameAs xs ys) w:=by have :=(EO (P:=E.C.P) 40).1 t L Op.maxDepth w xs ys dD hL f1 f2;rw[ha]at this;exact this
 have hg':(eqGuard op t x y (tv true xs) (tv true ys)).run E.C.P w=.ok () w:=by unfold eqGuard;simp only[tv];split<;>simp[hg]
 simp only[tv]at e1 e2 hq hg';cases op<;>simp only at h<;>first|exact h.elim|(exact Yields.same (by simp[execOp,ho,e1,e2,hg',binOp,hq];rfl) (h.out _ rfl) (.p _ _ (.bool _)))|(exact Yields.same (by simp[execOp,ho,e1,e2,hg',binOp,hq]) (h.out _ rfl) (.p _ _ (.bool _)))
 simp_all
theorem agv (k:IntKind)(x y:Int):Op.intBits .and k x y=pure (.int k (yP .and k x y)):=rfl
theorem aii (k:IntKind)(x y:Int):Op.intBits .or k x y=pure (.int k (yP .or k x y)):=rfl
theorem Zz (k:IntKind)(x y:Int):Op.intBits .xor k x y=pure (.int k (yP .xor k x y)):=rfl
theorem WI (k:IntKind)(x y:Int):Op.intBits .andNot k x y=pure (.int k (yP .andNot k x y)):=rfl
theorem Tb (hs:bA E G S a w){op:BinOp}{t yt:TypeId}{x y:Operand}(ho:o.op=.binOp op t x y yt)(h:HK E.C t op (S.val x) (S.val y) K):Yields E G a w o K:=by
 have hx:=aU.val hs x;have hy:=aU.val hs y;generalize S.val x=vx at h hx;generalize S.val y=vy at h hy;unfold HK at h;split at h
 ·rename_i k m k' n;split at h;have ex:=hx.gh;have ey:=hy.gh;have hg:(eqGuard op t x y (.int k m) (.int k' n)).run E.C.P w=.ok () w:=by unfold eqGuard;split<;>simp
  cases op<;>simp only[CK]at h<;>first
   |exact h.elim
   |
    (
     obtain⟨hn,c,rfl,h⟩:=h;have hn':¬n<0:=oO
     exact Yields.same (by simp[execOp,ho,ex,ey,hg,binOp,Op.shift,hn']) h (.p _ _ (.int _ _)))
  rename_i hns;split at h;case h_2=>simp_all
  rename_i hk;obtain rfl:=rX hk;have ex:=hx.gh;have ey:=hy.gh;have hg:(eqGuard op t x y (.int k m) (.int k n)).run E.C.P w=.ok () w:=by unfold eqGuard;split<;>simp
  cases op<;>simp only[Pr]at h<;>first|exact h.elim|(obtain⟨c,rfl,h⟩:=h;exact Yields.same (by simp[execOp,ho,ex,ey,hg,binOp,Op.intArith,agv,aii,Zz,WI]) h (.p _ _ (.int _ _)))|(obtain⟨hn,c,rfl,h⟩:=h;exact Yields.same (by simp[execOp,ho,ex,ey,hg,binOp,Op.intDiv,hn]) h (.p _ _ (.int _ _)))|(exact Yields.same (by simp[execOp,ho,ex,ey,hg,binOp,Op.intCmp]) (h.out _ rfl) (.p _ _ (.bool _)))
 rename_i s r;have ex:=hx.kq;have ey:=hy.kq;have hg:(eqGuard op t x y (.string ⟨s.toArray⟩) (.string ⟨r.toArray⟩)).run E.C.P w=.ok () w:=by unfold eqGuard;split<;>simp
 have l1:(⟨s.toArray⟩:ByteArray).toList=s:=by simp[ByteArray.toList_eq]
 have l2:(⟨r.toArray⟩:ByteArray).toList=r:=by simp[ByteArray.toList_eq]
 cases op<;>simp only[Pt]at h<;>first
  |exact h.elim
  |
   (
    obtain⟨hlen,h⟩:=h;have hlen':¬(((⟨s.toArray⟩:ByteArray).size+(⟨r.toArray⟩:ByteArray).size:Nat):Int)>IntKind.i64.max:=by
     have h1:(⟨s.toArray⟩:ByteArray).size=s.length:=by simp[ByteArray.size]
     have h2:(⟨r.toArray⟩:ByteArray).size=r.length:=by simp[ByteArray.size]
     rw[h1,h2];simp only[IntKind.max,IntKind.signed,IntKind.bits,if_true];omega
    have akJ:(⟨s.toArray⟩:ByteArray)++⟨r.toArray⟩=⟨(s++r).toArray⟩:=by apply ByteArray.ext;simp
    exact Yields.same (v:=.string ⟨(s++r).toArray⟩) (by simp only[execOp,ho,ex,ey,hg,binOp,Op.stringOp,hlen',akJ,Sem.run_bind,Result.andThen_ok,if_false,Sem.run_pure]) h (.p _ _ (.str _)))
  |(exact Yields.same (by simp[execOp,ho,ex,ey,hg,binOp,Op.stringOp,l1,l2];rfl) (h.out _ rfl) (.p _ _ (.bool _)))
  |(exact Yields.same (by simp[execOp,ho,ex,ey,hg,binOp,Op.stringOp,l1,l2]) (h.out _ rfl) (.p _ _ (.bool _)))
 rename_i ob off;generalize hex:a.eval x=vx at hx;generalize hey:a.eval y=vy at hy;obtain rfl:=hy.Ig;cases hx with
 |ptr _ _ b fZ=>split at h;rename_i ht;exact ry ho hex hey (qg _ (E.C.ok ht).ptr) (.inl ⟨rfl,h⟩);rename_i ht;exact ry ho hex hey (qg _ (E.C.ok ht).ptr) (.inr ⟨rfl,h⟩);simp_all
 have hex:=hx.Ig;have hey:=hy.Ig;split at h;rename_i ht;exact ry ho hex hey (qg _ (E.C.ok ht).ptr) (.inl ⟨rfl,h⟩);rename_i ht;exact ry ho hex hey (qg _ (E.C.ok ht).ptr) (.inr ⟨rfl,h⟩);simp_all;rename_i ob off ob' off';generalize hex:a.eval x=vx at hx;generalize hey:a.eval y=vy at hy;cases hx with
 |ptr _ _ b fZ=>
  cases hy with
  |ptr _ _ b' Bp=>split at h;rename_i h1 h2 ht;obtain rfl:=aN h1;obtain rfl:=aN h2;rw[fZ]at Bp;obtain rfl:=aq Bp;split at h;rename_i he;exact ry ho hex hey (yw _ (E.C.ok ht).ptr (E.C.ok he)) (.inl ⟨rfl,h⟩);simp_all;rename_i h1 h2 ht;obtain rfl:=aN h1;obtain rfl:=aN h2;rw[fZ]at Bp;obtain rfl:=aq Bp;split at h;rename_i he;exact ry ho hex hey (yw _ (E.C.ok ht).ptr (E.C.ok he)) (.inr ⟨rfl,h⟩);simp_all;simp_all
 rename_i b c;have ex:=hx.nF;have ey:=hy.nF;have hg:(eqGuard op t x y (.bool b) (.bool c)).run E.C.P w=.ok () w:=by unfold eqGuard;split<;>simp
 split at h;rename_i ht;have hu:=(E.C.ok ht).bool;have hq:(Op.equal t (.bool b) (.bool c)).run E.C.P w=.ok (b==c) w:=run_equal_bool w t b c hu;cases op<;>simp only at h<;>first|exact h.elim|(exact Yields.same (by simp[execOp,ho,ex,ey,hg,binOp,hq];rfl) (h.out _ rfl) (.p _ _ (.bool _)))|(exact Yields.same (by simp[execOp,ho,ex,ey,hg,binOp,hq]) (h.out _ rfl) (.p _ _ (.bool _)))
 simp_all;exact PW hs ho hx hy h
theorem Ih (hs:bA E G S a w){t:TypeId}{pv:Value}{vx:FV}(hne:∀o b off,vx≠.gV o b off)(hx:aU G w pv vx)(h:nB E.C S.aK t vx K):∃ad v x,pv=.pointer (some ad)/\(loadVar t ad).run E.C.P w=.ok v w/\K x/\aU G w v x:=by
 unfold nB at h;split at h;simp_all;rename_i i hi;have hok:=E.C.ok hi;split at h;rename_i ob off;obtain⟨b,hv,fZ⟩:=hx.oT;split at h;simp_all;rename_i cells hcells;obtain⟨b',hb',hc⟩:=hs.aK _ _ hcells;obtain rfl:b'=b:=by simp_all
 split at h;rename_i hagg;split at h;simp_all;rename_i cs hcs;rw[nE]at hcs;obtain⟨rfl,hle⟩:=xb hcs;rw[dL]at hle;have vX:∀j,j<i.size->∃c x,w.cell? ⟨b',off+j,none⟩=some c/\cells[off+j]?=some x/\aU G w c x:=λj hj=>by grind
 let f:Nat->Value:=λj=>(w.cell? ⟨b',off+j,none⟩).getD undef;have hf:∀j,j<i.size->w.cell? ((⟨b',off,none⟩:Addr).add j)=some (f j):=λj hj=>by obtain⟨c,x,h1,-⟩:=vX j hj;rw[Addr.add_lit];grind
 have hrun:=run_loadCells (P:=E.C.P) w ⟨b',off,none⟩ i.size f hf;refine⟨_,.agg ((List.range i.size).map f).toArray,_,hv,by simp[loadVar,hok.isAgg,hagg,hok.sizeOf,hrun],h,?_⟩;refine .agg _ _ (by simp_all) λj c x hj hx=>?_;grind;rename_i hagg;split at h;simp_all;rename_i y ys hys;have hy:=mE hys;obtain⟨c,h1,h2⟩:=hc off y hy;exact⟨_,_,_,hv,by simp[loadVar,hok.isAgg,hagg,h1],h,h2⟩;rename_i xs;obtain⟨b,off,hv,hc⟩:=hx.plain.Dc;split at h;rename_i hagg;split at h;simp_all;rename_i cs hcs;obtain⟨rfl,hle⟩:=BN hcs;have vX:∀j,j<i.size->∃c x,w.cell? ⟨b,off+j,none⟩=some c/\xs[j]?=some x/\x.one=true/\dH G.br w c x:=λj hj=>by
  have hl:j<xs.length:=oO
  obtain⟨c,h0,h1,-,h2⟩:=hc j _ (ay hl);simp_all
 let f:Nat->Value:=λj=>(w.cell? ⟨b,off+j,none⟩).getD undef;have hf:∀j,j<i.size->w.cell? ((⟨b,off,none⟩:Addr).add j)=some (f j):=λj hj=>by obtain⟨c,x,h1,-⟩:=vX j hj;rw[Addr.add_lit];grind
 have hrun:=run_loadCells (P:=E.C.P) w ⟨b,off,none⟩ i.size f hf;refine⟨_,.agg ((List.range i.size).map f).toArray,_,hv,by simp[loadVar,hok.isAgg,hagg,hok.sizeOf,hrun],h,?_⟩;refine .p _ _ (.agg _ _ (by simp_all) (λx hx=>?_) λj c x hj hx=>?_);obtain⟨j,hj⟩:=List.mem_iff_getElem?.1 hx;grind;grind;rename_i hagg;split at h;simp_all;rename_i y ys;obtain⟨c,h0,h1,-,h2⟩:=hc 0 y rfl;exact⟨_,_,_,hv,by simp at h1;simp[loadVar,hok.isAgg,hagg,h1],h,.p _ _ h2⟩;simp_all;simp_all
theorem aU.zi {v:Value}{o base off:Nat}(h:aU G w v (.gV o base off)):aU G w v (.ptr o (base+off)):=by
 cases h with
 |gV _ _ _ b h=>exact .ptr o (base+off) b h
theorem PX {A ys B:List FV}{base off:Nat}(hA:A.length=base)(h:off<=ys.length):(A++(ys++B)).drop (base+off)=ys.drop off++B:=by rw[List.drop_append,hA,show base+off-base=off by omega,Dd (show A.length<=base+off by omega),dM,De h]
theorem ZA {n:Nat}{xs:List FV}(h:n<=xs.length):takeN n xs=some (xs.take n):=by
 induction n generalizing xs with
 |zero=>rfl
 |succ n ih=>
  cases xs with
  |nil=>grind
  |cons x xs=>simp only[takeN,ih (by simpa using h),xd]
theorem Lz (hs:bA E G S a w){t:TypeId}{pv:Value}{vx:FV}(hx:aU G w pv vx)(h:nB E.C S.aK t vx K):∃ad v x,pv=.pointer (some ad)/\(loadVar t ad).run E.C.P w=.ok v w/\K x/\aU G w v x:=by
 by_cases hne:∀o b off,vx≠.gV o b off;exact Ih hs hne hx h;have :∃o b off,vx=.gV o b off:=by cases vx<;>first|exact⟨_,_,_,rfl⟩|exact absurd (λ_ _ _ e=>by cases e) hne
 obtain⟨o,base,off,rfl⟩:=this;refine Ih hs (λ_ _ _ e=>by grind) hx.zi ?_;unfold nB at h⊢;split at h;omega;rename_i i hi;simp only at h⊢;split at h;omega;rename_i cells hc;obtain⟨A,ys,B,hcells,hA,h⟩:=h;split at h;rename_i hagg;split at h;simp_all;rename_i cs hcs;rw[nE]at hcs⊢;obtain⟨rfl,hle⟩:=xb hcs;rw[dL]at hle;have :takeN i.size ((A++(ys++B)).drop (base+off))=some ((ys.drop off).take i.size):=by
  by_cases hl:off<=ys.length;rw[PX hA hl,ZA (by grind),th (by simp_all)];have h0:i.size=0:=oO
  rw[h0];rfl
 simp_all;rename_i hagg;split at h;simp_all;rename_i y zs hzs;rw[nE]at hzs⊢;have hl:off<=ys.length:=by have :=aY List.length hzs;simp at this;omega
 rw[hcells,PX hA hl,hzs];grind
theorem PY (hs:bA E G S a w){t:TypeId}{x:Operand}(ho:o.op=.load t x)(h:nB E.C S.aK t (S.val x) K):Yields E G a w o K:=by obtain⟨ad,v,y,h1,h2,h3,h4⟩:=Lz hs (aU.val hs x) h;exact Yields.same (by simp[execOp,ho,h1,Instr.loadAt,Instr.sureAddr,h2]) h3 h4
end
section
variable {E:Env}{G:bl}{S:an}{a:Act}{w:World}{o:Oper}{K:FV->Prop}
theorem PZ (hs:bA E G S a w){c x y:Operand}(ho:o.op=.pick c x y)(h:match S.val c with|.p (.bool true)=>force (S.val x) K|.p (.bool false)=>force (S.val y) K|_=>False):Yields E G a w o K:=by have hc:=aU.val hs c;generalize S.val c=vc at h hc;split at h;rw[force_eq]at h;exact Yields.same (by simp[execOp,ho,hc.nF,asBool]) h (aU.val hs x);rw[force_eq]at h;exact Yields.same (by simp[execOp,ho,hc.nF,asBool]) h (aU.val hs y);simp_all
theorem Qa (hs:bA E G S a w){op:UnOp}{t:TypeId}{x:Operand}(ho:o.op=.unOp op t x)(h:SN op (S.val x) K):Yields E G a w o K:=by
 have hx:=aU.val hs x;generalize S.val x=vx at h hx;have hd:(op=.not/\∃b,vx=.p (.bool b)/\(Al λt:Bool=>t=!b->K (.p (.bool t))))\/(op=.neg/\∃k n,vx=.p (.int k n)/\∃c,k.wrap (0-n)=c/\K (.p (.int k c)))\/(op=.xor/\∃k n,vx=.p (.int k n)/\∃c,yP .xor k (match k.signed with|true=>-1|false=>k.max) n=c/\K (.p (.int k c))):=by unfold SN at h;split at h;simp_all;grind;grind;simp_all
 rcases hd with⟨rfl,b,rfl,h⟩|⟨rfl,k,n,rfl,c,rfl,h⟩|⟨rfl,k,n,rfl,c,rfl,h⟩;have ex:=hx.nF;exact Yields.same (v:=.bool !b) (by simp[execOp,ho,ex,Op.unary]) (h.out _ rfl) (.p _ _ (.bool _));have ex:=hx.gh;exact Yields.same (v:=.int k (k.wrap (0-n))) (by simp[execOp,ho,ex,Op.unary,Op.intArith]) h (.p _ _ (.int _ _));have ex:=hx.gh;refine Yields.same (v:=.int k (yP .xor k (match k.signed with|true=>-1|false=>k.max) n)) ?_ h (.p _ _ (.int _ _));have e:(if k.signed=true then(-1:Int)else k.max)=(match k.signed with|true=>-1|false=>k.max):=by cases k.signed<;>rfl
 simp[execOp,ho,ex,Op.unary,Zz,e]
theorem foldl_push (bs:List UInt8):∀(r:ByteArray),(bs.map λb=>(b.toNat:Int)).foldl (λr n=>r.push (UInt8.ofNat n.toNat)) r=⟨r.data++bs.toArray⟩:=by
 induction bs with
 |nil=>simp_all
 |cons b bs ih=>simp_all
theorem Ii (hs:bA E G S a w){src dst:TypeId}{x:Operand}(ho:o.op=.convert src dst x)(h:SO E.C src dst (S.val x) K):Yields E G a w o K:=by
 have hx:=aU.val hs x;generalize S.val x=vx at h hx;unfold SO at h;split at h;simp_all;rename_i a0 b0 sh z0 hi;obtain⟨d,hd,hsh⟩:=(E.C.ok hi).zh;split at h;rename_i hd';have hu:=(E.C.ok hd').int;split at h;have ex:=hx.gh;obtain⟨c,rfl,h⟩:=h;exact Yields.same (by simp[execOp,ho,ex,convert,run_underlying hd,run_underlying hu,Conv.intToInt]) h (.p _ _ (.int _ _));simp_all;rename_i hd';have hu:=(E.C.ok hd').str;split at h;have ex:=hx.kq;exact Yields.same (by simp[execOp,ho,ex,convert,run_underlying hd,run_underlying hu]) h (.p _ _ (.str _));have ex:=hx.gh;obtain⟨c,rfl,hc,h⟩:=h;have adz:Utf8.encode (c.toNat:Int)=⟨#[c]⟩:=by
  have hv:Utf8.valid (c.toNat:Int)=true:=by simp[Utf8.valid];omega
  unfold Utf8.encode;simp only[hv,if_true,jG,hc];simp
 refine Yields.same (v:=.string ⟨[c].toArray⟩) ?_ h (.p _ _ (.str _));simp[execOp,ho,ex,convert,run_underlying hd,run_underlying hu,Conv.intToString,adz];unfold Vk at h;split at h;rename_i e xs hxs;split at h;rename_i by0 z1 he;obtain⟨bs,rfl,h⟩:=h;have hse:=(E.C.ok hi).slice;have hue:=(E.C.ok he).int;obtain⟨ad,c,hv,hcap,hne⟩:=(hx.elems hxs).lG;have hl:(bs.map λb=>[AV.int .u8 (b.toNat:Int)]).length=bs.length:=by simp
 rw[hl]at hv;refine Yields.same (v:=.string ⟨bs.toArray⟩) ?_ h (.p _ _ (.str _));have hrun:(Conv.bytesToString (.slice ad bs.length c)).run E.C.P w=.ok (.string ⟨bs.toArray⟩) w:=by
  by_cases h0:bs=[];subst h0;cases ad with
  |none=>rfl
  |some ad=>rfl
  obtain⟨b,off,bP,cell,rfl,g1,g2⟩:=hne (by simp_all);have hpos:0<bs.length:=qh.2 h0;have he1:bP=1:=(g1 0 [AV.int .u8 (bs[0].toNat:Int)] (by grind)).symm;subst he1;have hcell:∀q,q<bs.length->w.cell? ((⟨b,off,none⟩:Addr).add q)=some (((bs.map λb=>(b.toNat:Int))[q]?).elim undef (Value.int .u8)):=λq hq=>by obtain⟨-,g3,-,g4⟩:=g2 q [AV.int .u8 (bs[q].toNat:Int)] 0 _ (by grind) rfl;rw[Addr.add_lit,show off+q=off+q*1+0 from oO,g3];generalize cell q 0=cc at g4;cases g4;grind
  have :=run_loadCells (P:=E.C.P) w ⟨b,off,none⟩ bs.length _ hcell;have aij:(loadCells ⟨b,off,none⟩ bs.length).run E.C.P w=.ok ((bs.map λb=>(b.toNat:Int)).map (Value.int .u8)).toArray w:=by rw[this];congr 1;apply iW.1;apply gz;intro q;by_cases hq:q<bs.length;grind;grind
  rw[run_bytesToString w _ _ _ _ aij,foldl_push];congr 2;simp
 simp[execOp,ho,hv,run_convert_bytes_string w src dst e ad bs.length c hse hue hu,hrun];simp_all;simp_all;simp_all
theorem zj (hs:bA E G S a w){t:TypeId}{x:Operand}(ho:o.op=.makeInterface t x)(h:match bV E.C.jE t with
 |some ⟨_,_,.iface,_⟩=>False
 |some _=>match(S.val x).fA with|some y=>K (.p (.iface t y))|none=>False
 |none=>False):Yields E G a w o K:=by
 have hx:=aU.val hs x;generalize S.val x=vx at h hx;split at h;simp_all;rename_i i hne hi;obtain⟨d,hd,hsh⟩:=(E.C.ok hi).zh;split at h;rename_i y hy;have hr:=hx.fA hy;refine Yields.same (v:=.iface t (a.eval x)) ?_ h (.p _ _ (.iface _ _ _ hr));cases d<;>first|(simp[execOp,ho,Instr.makeInterface,run_underlying hd];done)|(exfalso;obtain⟨s,b,sh,z⟩:=i;simp only[shapeOf]at hsh;simp_all)
 simp_all;simp_all
theorem yx (hs:bA E G S a w){fn:Fn}{first captured:Array Operand}(ho:o.op=.makeFunc fn first captured)(h:K (.fn fn (first.toList.map S.val) (captured.toList.map S.val))):Yields E G a w o K:=by
 refine Yields.same (v:=.func fn (first.toList.map a.eval).toArray (captured.toList.map a.eval).toArray) ?_ h (.fn fn _ _ _ _ (by simp) (by simp) (λi c x hc hx=>?_) (λi c x hc hx=>?_));simp[execOp,ho,Instr.makeFunc,<-Df];rw[aM]at hc hx;cases h0:first.toList[i]?with
 |none=>simp_all
 |some y=>simp[h0]at hc hx;subst hc;subst hx;exact aU.val hs y
 rw[aM]at hc hx;cases h0:captured.toList[i]?with
 |none=>simp_all
 |some y=>simp[h0]at hc hx;subst hc;subst hx;exact aU.val hs y
theorem GO (hs:bA E G S a w){x:Operand}(ho:o.op=.nilCheck x)(h:match S.val x with|.ptr b off=>K (.ptr b off)|.p (.imp xs)=>K (.p (.imp xs))|.gV o base off=>K (.gV o base off)|.p (.fn (.func f) a b)=>K (.p (.fn (.func f) a b))|.fn (.func f) a b=>K (.fn (.func f) a b)|_=>False):Yields E G a w o K:=by have hx:=aU.val hs x;generalize S.val x=vx at h hx;split at h;obtain⟨b,hv,-⟩:=hx.oT;exact Yields.same (by simp[execOp,ho,hv]) h (hv▸hx);obtain⟨b,off,hv,-⟩:=hx.plain.Dc;exact Yields.same (by simp[execOp,ho,hv]) h (hv▸hx);obtain⟨b,hv,-⟩:=hx.zi.oT;exact Yields.same (by simp[execOp,ho,hv]) h (hv▸hx);have h1:=hx.plain;generalize hv:a.eval x=v at hx h1;cases h1;exact Yields.same (by simp[execOp,ho,hv]) h hx;generalize hv:a.eval x=v at hx;have hx':=hx;cases hx';exact Yields.same (by simp[execOp,ho,hv]) h hx;simp_all
theorem uq {P:Program}{w:World}{b off:Nat}{g:Field}{n:Nat}(h:(Go.sizeOf g.type).run P w=.ok n w)(hn:n≠0):(fieldPlace ⟨b,off,none⟩ g).run P w=.ok ⟨b,off+g.offset,none⟩ w:=by simp[fieldPlace,h,hn,Addr.add_lit]
theorem ER (hs:bA E G S a w){s:TypeId}{x:Operand}{f:Nat}(ho:o.op=.fieldAddr s x f)(h:nC E.C s (S.val x) f K):Yields E G a w o K:=by have hx:=aU.val hs x;generalize S.val x=vx at h hx;unfold nC at h;split at h;rename_i hi;split at h;simp_all;rename_i off' t r hd;obtain⟨gs,g,h1,h2,h3,h4⟩:=(E.C.ok hi).field hd;split at h;simp_all;rename_i j hj;split at h;simp_all;rename_i n hn;have hsz:=(E.C.ok hj).sizeOf w;rw[<-h4]at hsz;split at h;rename_i b0 off;obtain⟨b,hv,hl⟩:=hx.oT;refine Yields.same (v:=.pointer (some ⟨b,off+off',none⟩)) ?_ h (.ptr _ _ _ hl);simp[execOp,ho,hv,Instr.fieldAt,run_underlying h1,h2,Instr.sureAddr,uq hsz oO,h3];rename_i xs;obtain⟨b,off,hv,hc⟩:=hx.plain.Dc;refine Yields.same (v:=.pointer (some ⟨b,off+off',none⟩)) ?_ h (.p _ _ (dH.Ta λk y hy=>?_));simp[execOp,ho,hv,Instr.fieldAt,run_underlying h1,h2,Instr.sureAddr,uq hsz oO,h3];rw[nE,kM]at hy;grind;rename_i b0 base off;obtain⟨b,hv,hl⟩:=hx.zi.oT;refine Yields.same (v:=.pointer (some ⟨b,base+(off+off'),none⟩)) ?_ h (.gV _ _ _ _ hl);simp[execOp,ho,hv,Instr.fieldAt,run_underlying h1,h2,Instr.sureAddr,uq hsz oO,h3,fL];simp_all;simp_all
theorem Dh {P:Program}{w:World}{t:TypeId}{i:jV}(hok:gj P t i)(hagg:i.shape.isAgg=true)(cs:Array Value)(off:Nat):(part t cs off).run P w=.ok (.agg (cs.extract off (off+i.size))) w:=by simp[part,hok.isAgg,hagg,hok.sizeOf]
theorem Di {P:Program}{w:World}{t:TypeId}{i:jV}(hok:gj P t i)(hagg:i.shape.isAgg=false)(cs:Array Value)(off:Nat)(v:Value)(hv:cs[off]?=some v):(part t cs off).run P w=.ok v w:=by simp[part,hok.isAgg,hagg,hv]
theorem NB (hs:bA E G S a w){s:TypeId}{x:Operand}{f:Nat}(ho:o.op=.field s x f)(h:wR E.C s (S.val x) f K):Yields E G a w o K:=by
 have hx:=aU.val hs x;generalize S.val x=vx at h hx;unfold wR at h;split at h;rename_i hi;split at h;simp_all;rename_i off' t r hd;obtain⟨gs,g,h1,h2,h3,h4⟩:=(E.C.ok hi).field hd;split at h;simp_all;rename_i j hj;have hok:=E.C.ok hj;subst h3;subst h4;split at h;rename_i xs;generalize hv:a.eval x=v at hx;cases hx with
 |agg cs xs hl hc=>
  split at h;rename_i hagg;split at h;rename_i ys hys;rw[nE]at hys;obtain⟨rfl,hle⟩:=xb hys;refine Yields.same (v:=.agg ((cs.drop g.offset).take j.size).toArray) ?_ h (.agg _ _ (by grind) λk c y hk hy=>?_);have e1:cs.toArray.extract g.offset (g.offset+j.size)=((cs.drop g.offset).take j.size).toArray:=by simp[xg,xh]
  simp[execOp,ho,hv,Instr.field,run_underlying h1,h2,asAgg,Dh hok hagg,e1];grind;simp_all;rename_i hagg;split at h;rename_i y ys hys;have hy:=mE hys;have hlt:g.offset<cs.length:=by rw[hl];exact(aI.1 hy).1
  refine Yields.same (v:=cs[g.offset]) ?_ h (hc _ _ _ (ay hlt) hy);simp[execOp,ho,hv,Instr.field,run_underlying h1,h2,asAgg,Di hok hagg cs.toArray g.offset cs[g.offset] (by simp_all)];simp_all
 rename_i xs;have hx:=hx.plain;generalize hv:a.eval x=v at hx;cases hx with
 |agg cs xs hl hone hc=>
  split at h;rename_i hagg;split at h;rename_i ys hys;rw[nE]at hys;obtain⟨rfl,hle⟩:=BN hys;refine Yields.same (v:=.agg ((cs.drop g.offset).take j.size).toArray) ?_ h (.p _ _ (.agg _ _ (by grind) (λz hz=>hone z (List.mem_of_mem_drop (xk hz))) λk c y hk hy=>?_));have e1:cs.toArray.extract g.offset (g.offset+j.size)=((cs.drop g.offset).take j.size).toArray:=by simp[xg,xh]
  simp[execOp,ho,hv,Instr.field,run_underlying h1,h2,asAgg,Dh hok hagg,e1];grind;simp_all;rename_i hagg;split at h;rename_i y ys hys;have hy:=mE hys;have hlt:g.offset<cs.length:=by rw[hl];exact(aI.1 hy).1
  refine Yields.same (v:=cs[g.offset]) ?_ h (.p _ _ (hc _ _ _ (ay hlt) hy));simp[execOp,ho,hv,Instr.field,run_underlying h1,h2,asAgg,Di hok hagg cs.toArray g.offset cs[g.offset] (by simp_all)];simp_all
 simp_all;simp_all
theorem ia {P:Program}{w:World}(k:IntKind)(n:Int):(asIntOf (.int k n)).run P w=.ok (k,n) w:=rfl
theorem ES (hs:bA E G S a w){t:TypeId}{x i:Operand}(ho:o.op=.indexAddr t x i)(h:jP E.C S.aK t (S.val x) (S.val i) K):Yields E G a w o K:=by
 have hx:=aU.val hs x;have hi:=aU.val hs i;generalize S.val x=vx at h hx;generalize S.val i=vi at h hi;unfold jP at h;split at h;rename_i k n;have ei:=hi.gh;split at h;rename_i e _ ht;have hu:=(E.C.ok ht).slice;split at h;simp_all;rename_i j hj;have hsz:=(E.C.ok hj).sizeOf w;split at h;rename_i ob T bP;split at h;rename_i cells hcells hbe;obtain⟨m,base,rfl,rfl,hle,h⟩:=h;have hbe:=aN hbe;generalize hv:a.eval x=v at hx;cases hx with
 |gH _ _ _ n c b h1 h2 h3 h4=>
  obtain⟨-,-,h5⟩:=hs.cL _ _ _ _ h1 h2;have h6:=h5 cells hcells;simp only at h6;have hlt:m<n:=by
   rw[h6]at hle;have :(m+1)*bP<=n*bP:=by rw[bK,kR];exact hle
   exact Nat.le_of_mul_le_mul_right this h4
  refine Yields.same (v:=.pointer (some ⟨b,m*bP+0,none⟩)) ?_ h (.gV _ _ _ _ h1);have hin:(0:Int)<=(m:Int)/\(m:Int)<(n:Int):=⟨oO,oO⟩;simp[execOp,ho,ei,hv,Instr.indexAt,ia,run_underlying hu,hin,hsz,Addr.add_lit,hbe]
 simp_all;rename_i ob bx T bP;split at h;rename_i cells hcells hbe;obtain⟨m,base,rfl,rfl,hle,h⟩:=h;have hbe:=aN hbe;generalize hv:a.eval x=v at hx;cases hx with
 |uK _ _ _ _ n c b off h1 h2 h0 h3 h4=>
  obtain⟨-,-,h5⟩:=hs.cL _ _ _ _ h1 h2;have h6:=h5 cells hcells;simp only at h6;have hlt:bx+m<n:=by
   rw[h6]at hle;have :(bx+m+1)*bP<=n*bP:=by rw[bK (bx+m) 1,kR];exact hle
   exact Nat.le_of_mul_le_mul_right this h4
  obtain rfl:=h0.2 oO;refine Yields.same (v:=.pointer (some ⟨b,(bx+m)*bP+0,none⟩)) ?_ h (.gV _ _ _ _ h1);have hin:(0:Int)<=(m:Int)/\(m:Int)<((n-bx:Nat):Int):=⟨oO,oO⟩;have ano:bx*bP+m*bP=(bx+m)*bP:=by rw[bK]
  simp[execOp,ho,ei,hv,Instr.indexAt,ia,run_underlying hu,hin,hsz,Addr.add_lit,hbe];simp_all
 simp_all;split at h;simp_all;rename_i xs hxs;obtain⟨h0,ys,hys,hlen,h⟩:=h;obtain⟨ad,c,hv,hcap,hne⟩:=(hx.elems hxs).lG;have hlt:n.toNat<xs.length:=(aI.1 hys).1;obtain⟨b,off,bP,cell,rfl,h1,h2⟩:=hne (by grind);have ZB:bP=j.size:=(h1 _ _ hys).symm.trans hlen;refine Yields.same (v:=.pointer (some ⟨b,off+n.toNat*bP,none⟩)) ?_ h (.p _ _ (dH.Ta λm y hy=>?_));have hin:0<=n/\n<(xs.length:Int):=⟨h0,oO⟩;simp[execOp,ho,ei,hv,Instr.indexAt,ia,run_underlying hu,hin,hsz,Addr.add_lit,ZB];grind;rename_i len e _ ht;have hu:=(E.C.ok ht).array;split at h;simp_all;rename_i j hj;have hsz:=(E.C.ok hj).sizeOf w;obtain⟨m,rfl,hm,h⟩:=h;have hin:(0:Int)<=(m:Int)/\(m:Int)<(len:Int):=⟨oO,oO⟩;split at h;rename_i b0 off;obtain⟨b,hv,hl⟩:=hx.oT;obtain⟨sym,h⟩:=h;cases sym with
 |true=>obtain⟨base,rfl,h⟩:=h;exact Yields.same (v:=.pointer (some ⟨b,off+m*j.size+0,none⟩)) (by simp[execOp,ho,ei,hv,Instr.indexAt,ia,run_underlying hu,Instr.sureAddr,hin,hsz,Addr.add_lit]) h (.gV _ _ _ _ hl)
 |false=>exact Yields.same (v:=.pointer (some ⟨b,off+m*j.size,none⟩)) (by simp[execOp,ho,ei,hv,Instr.indexAt,ia,run_underlying hu,Instr.sureAddr,hin,hsz,Addr.add_lit]) h (.ptr _ _ _ hl)
 rename_i b0 b1 off;obtain⟨b,hv,hl⟩:=hx.zi.oT;obtain⟨base,rfl,h⟩:=h;refine Yields.same (v:=.pointer (some ⟨b,b1+(off+m*j.size)+0,none⟩)) ?_ h (.gV _ _ _ _ hl);simp[execOp,ho,ei,hv,Instr.indexAt,ia,run_underlying hu,Instr.sureAddr,hin,hsz,Addr.add_lit,fL];rename_i xs;obtain⟨b,off,hv,hc⟩:=hx.plain.Dc;obtain⟨ys,rfl,h⟩:=h;refine Yields.same (v:=.pointer (some ⟨b,off+m*j.size,none⟩)) ?_ h (.p _ _ (dH.Ta λk y hy=>?_));simp[execOp,ho,ei,hv,Instr.indexAt,ia,run_underlying hu,Instr.sureAddr,hin,hsz,Addr.add_lit];rw[nE,kM]at hy;grind;simp_all;simp_all;simp_all
theorem NC (hs:bA E G S a w){t:TypeId}{x i:Operand}(ho:o.op=.index t x i)(h:wT E.C t (S.val x) (S.val i) K):Yields E G a w o K:=by
 have hx:=aU.val hs x;have hi:=aU.val hs i;generalize S.val x=vx at h hx;generalize S.val i=vi at h hi;unfold wT at h;split at h;rename_i k n;have ei:=hi.gh;split at h;rename_i ht;have hu:=(E.C.ok ht).str;split at h;rename_i s;have ex:=hx.kq;obtain⟨h0,c,hc,h⟩:=h;have hlt:=(aI.1 hc).1;have hg:(⟨s.toArray⟩:ByteArray)[n.toNat]?=some c:=by
  have :n.toNat<(⟨s.toArray⟩:ByteArray).size:=by simpa[ByteArray.size]using hlt
  refine(getElem?_pos (⟨s.toArray⟩:ByteArray) n.toNat this).trans ?_;have h2:=aI.1 hc;simpa[ByteArray.getElem_eq_getElem_data]using h2.2
 exact Yields.same (v:=.int .u8 c.toNat) (by simp[execOp,ho,ei,ex,Instr.index,ia,run_underlying hu,h0,hg]) h (.p _ _ (.int _ _));simp_all;rename_i len e _ ht;have hu:=(E.C.ok ht).array;split at h;simp_all;rename_i j hj;have hok:=E.C.ok hj;split at h;rename_i hagg;obtain⟨m,rfl,hm,h⟩:=h;have h0:(0:Int)<=(m:Int):=oO
 split at h;rename_i xs;generalize hv:a.eval x=v at hx;cases hx with
 |agg cs xs hl hc=>
  split at h;rename_i ys hys;rw[nE]at hys;obtain⟨rfl,hle⟩:=xb hys;refine Yields.same (v:=.agg ((cs.drop (m*j.size)).take j.size).toArray) ?_ h (.agg _ _ (by grind) λk c y hk hy=>?_);have e1:cs.toArray.extract (m*j.size) (m*j.size+j.size)=((cs.drop (m*j.size)).take j.size).toArray:=by simp[xg,xh]
  simp[execOp,ho,hv,ei,Instr.index,ia,run_underlying hu,h0,hm,hok.sizeOf,Dh hok hagg,e1];grind;simp_all
 rename_i xs;have hx:=hx.plain;generalize hv:a.eval x=v at hx;cases hx with
 |agg cs xs hl hone hc=>
  split at h;rename_i ys hys;rw[nE]at hys;obtain⟨rfl,hle⟩:=BN hys;refine Yields.same (v:=.agg ((cs.drop (m*j.size)).take j.size).toArray) ?_ h (.p _ _ (.agg _ _ (by grind) (λz hz=>hone z (List.mem_of_mem_drop (xk hz))) λk c y hk hy=>?_));have e1:cs.toArray.extract (m*j.size) (m*j.size+j.size)=((cs.drop (m*j.size)).take j.size).toArray:=by simp[xg,xh]
  simp[execOp,ho,hv,ei,Instr.index,ia,run_underlying hu,h0,hm,hok.sizeOf,Dh hok hagg,e1];grind;simp_all
 simp_all;rename_i hagg;obtain⟨m,rfl,hm,h⟩:=h;have h0:(0:Int)<=(m:Int):=oO
 have h1:(m:Int)<(len:Int):=oO
 split at h;rename_i xs;generalize hv:a.eval x=v at hx;cases hx with
 |agg cs xs hl hc=>
  split at h;rename_i y ys hys;have hy:=mE hys;have hlt:m*j.size<cs.length:=by rw[hl];exact(aI.1 hy).1
  refine Yields.same (v:=cs[m*j.size]) ?_ h (hc _ _ _ (ay hlt) hy);simp[execOp,ho,hv,ei,Instr.index,ia,run_underlying hu,h0,hm,hok.sizeOf,Di hok hagg cs.toArray (m*j.size) cs[m*j.size] (by simp_all)];simp_all
 rename_i xs;have hx:=hx.plain;generalize hv:a.eval x=v at hx;cases hx with
 |agg cs xs hl hone hc=>
  split at h;rename_i y ys hys;have hy:=mE hys;have hlt:m*j.size<cs.length:=by rw[hl];exact(aI.1 hy).1
  refine Yields.same (v:=cs[m*j.size]) ?_ h (.p _ _ (hc _ _ _ (ay hlt) hy));simp[execOp,ho,hv,ei,Instr.index,ia,run_underlying hu,h0,hm,hok.sizeOf,Di hok hagg cs.toArray (m*j.size) cs[m*j.size] (by simp_all)];simp_all
 simp_all;simp_all;simp_all
theorem Ij (hs:bA E G S a w){x:Operand}{i:Nat}(ho:o.op=.extract x i)(h:match S.val x with
 |.eN xs=>match gC i xs with|y::_=>K y|[]=>False
 |.p (.eN xs)=>match gC i xs with|y::_=>K (.p y)|[]=>False
 |_=>False):Yields E G a w o K:=by
 have hx:=aU.val hs x;generalize S.val x=vx at h hx;split at h;generalize hv:a.eval x=v at hx;cases hx with
 |eN cs xs hl hc=>
  split at h;rename_i y ys hys;have hy:=mE hys;have hlt:i<cs.length:=by rw[hl];exact(aI.1 hy).1
  exact Yields.same (v:=cs[i]) (by simp[execOp,ho,hv,Instr.extract,hlt]) h (hc _ _ _ (ay hlt) hy);simp_all
 have hx:=hx.plain;generalize hv:a.eval x=v at hx;cases hx with
 |eN cs xs hl hc=>
  split at h;rename_i y ys hys;have hy:=mE hys;have hlt:i<cs.length:=by rw[hl];exact(aI.1 hy).1
  exact Yields.same (v:=cs[i]) (by simp[execOp,ho,hv,Instr.extract,hlt]) h (.p _ _ (hc _ _ _ (ay hlt) hy));simp_all
 simp_all
end
section
variable {E:Env}{G:bl}{S:an}{a:Act}{w:World}{o:Oper}{K:FV->Prop}
theorem pM (hs:bA E G S a w){x:Option Operand}{d:Nat}{K:Nat->Prop}(h:uO (x.map S.val) d K):∃m,K m/\((x=none/\m=d)\/∃y k,x=some y/\a.eval y=.int k m):=by
 cases x with
 |none=>exact⟨d,h,.inl ⟨rfl,rfl⟩⟩
 |some y=>have hy:=aU.val hs y;simp only[eW,uO]at h;generalize S.val y=vy at h hy;split at h;simp_all;rename_i k n heq;obtain rfl:=aq heq;obtain⟨m,rfl,h⟩:=h;exact⟨m,h,.inr ⟨y,k,rfl,hy.gh⟩⟩;simp_all
theorem mS {P:Program}{w:World}(isSlice:Bool)(len cap:Nat)(lo hi:Option Value)(l h:Nat)(hl:l<=h)(hh:h<=cap)(h1:(lo=none/\l=0)\/∃k:IntKind,lo=some (.int k l))(h2:(hi=none/\h=len)\/∃k:IntKind,hi=some (.int k h)):(Instr.sliceBounds isSlice len cap lo hi none).run P w=.ok (l,h,cap) w:=by
 have b1:∀(k:IntKind)(m y:Nat)(c:BoundsCode),m<=y->(Instr.sliceBound (.int k m) y c).run P w=.ok m w:=λk m y c hm=>by have :(0:Int)<=(m:Int)/\(m:Int)<=(y:Int):=⟨oO,oO⟩;simp[Instr.sliceBound,ia,this]
 rcases h2 with⟨rfl,rfl⟩|⟨k2,rfl⟩<;>rcases h1 with⟨rfl,rfl⟩|⟨k1,rfl⟩;rfl;simp[Instr.sliceBounds,b1 k1 l _ _ hl];simp[Instr.sliceBounds,b1 k2 h _ _ hh];simp[Instr.sliceBounds,b1 k2 h _ _ hh,b1 k1 l _ _ hl]
theorem lW {a:Act}{x:Option Operand}{m d:Nat}(h:(x=none/\m=d)\/∃y k,x=some y/\a.eval y=.int k m):(x.map a.eval=none/\m=d)\/∃k:IntKind,x.map a.eval=some (.int k m):=by grind
theorem Bq (s:List UInt8)(l h:Nat)(hh:h<=s.length):(⟨s.toArray⟩:ByteArray).extract l h=⟨((s.take h).drop l).toArray⟩:=by apply ByteArray.ext;rw[ByteArray.data_extract];grind
theorem ND (hs:bA E G S a w){t:TypeId}{x:Operand}{lo hi:Option Operand}(ho:o.op=.slice t x lo hi none)(h:Nq E.C t (S.val x) (lo.map S.val) (hi.map S.val) K):Yields E G a w o K:=by
 have hx:=aU.val hs x;generalize S.val x=vx at h hx;unfold Nq at h;split at h;rename_i ht;have hu:=(E.C.ok ht).str;split at h;rename_i s;have ex:=hx.kq;obtain⟨m,h,h2⟩:=pM hs h;obtain⟨l,⟨hl,hm,s',rfl,h⟩,h1⟩:=pM hs h;have hsz:(⟨s.toArray⟩:ByteArray).size=s.length:=by simp[ByteArray.size]
 have hb:=mS (P:=E.C.P) (w:=w) false s.length s.length _ _ l m hl hm (lW h1) (lW h2);refine Yields.same (v:=.string ⟨((s.take m).drop l).toArray⟩) ?_ h (.p _ _ (.str _));simp[execOp,ho,ex,Instr.sliceAt,run_underlying hu,Instr.slice,hsz,hb,Bq s l m hm];simp_all;rename_i e _ ht;have hu:=(E.C.ok ht).slice;split at h;simp_all;rename_i j hj;have hjs:=(E.C.ok hj).sizeOf w;split at h;simp_all;rename_i xs hxs;obtain⟨ad,c,hv,hcap,hne⟩:=(hx.elems hxs).lG;obtain⟨m,h,h2⟩:=pM hs h;obtain⟨l,⟨hl,hm,hall,s',rfl,h⟩,h1⟩:=pM hs h;have hb:=mS (P:=E.C.P) (w:=w) true xs.length c _ _ l m hl oO (lW h1) (lW h2);have hrun:(execOp a.eval o).run E.C.P w=.ok (.value (.slice (if c=l then ad else ad.map (·.add (l*j.size))) (m-l) (c-l))) w:=by simp[execOp,ho,hv,Instr.sliceAt,run_underlying hu,Instr.slice,hb,hjs]
 have hlen:((xs.take m).drop l).length=m-l:=by simp;omega
 refine Yields.same hrun h (.p _ _ ?_);by_cases hz:m-l=0;have :(xs.take m).drop l=[]:=ck.1 oO;rw[this,hz];exact .Vg _ _;obtain⟨b,off,bP,cell,rfl,g1,g2⟩:=hne (by grind);have hpos:0<xs.length:=oO
 have ZB:bP=j.size:=(g1 0 _ (ay hpos)).symm.trans (hall _ (aQ hpos));have mF:¬c=l:=oO
 rw[af mF,<-hlen];simp only[eW,Addr.add_lit,<-ZB];refine dH.PR oO (bP:=bP) (λi ys hys=>?_) (λi ys k y hys hy=>?_);grind;grind;rename_i len e _ ht;have hu:=(E.C.ok ht).array;split at h;simp_all;rename_i j hj;have hjs:=(E.C.ok hj).sizeOf w;split at h;rename_i xs;obtain⟨b,off,hv,hc⟩:=hx.plain.Dc;obtain⟨m,h,h2⟩:=pM hs h;obtain⟨l,⟨hl,hm,hj1,hxl,s',rfl,h⟩,h1⟩:=pM hs h;have hb:=mS (P:=E.C.P) (w:=w) false len len _ _ l m hl hm (lW h1) (lW h2);have hrun:(execOp a.eval o).run E.C.P w=.ok (.value (.slice (some (if len=l then⟨b,off,none⟩else(⟨b,off,none⟩:Addr).add (l*j.size))) (m-l) (len-l))) w:=by simp[execOp,ho,hv,Instr.sliceAt,Instr.sureAddr,run_underlying hu,hb,hjs]
 have hlen:(((xs.take m).drop l).map λx=>[x]).length=m-l:=by simp;omega
 refine Yields.same hrun h (.p _ _ ?_);by_cases hz:m-l=0;have :(((xs.take m).drop l).map λx=>[x])=[]:=ck.1 oO;rw[this,hz];exact .Vg _ _;rw[af oO,<-hlen];simp only[Addr.add_lit,hj1];refine dH.PR oO (bP:=1) (λi ys hys=>?_) (λi ys k y hys hy=>?_);grind;rw[aM]at hys;cases hq:((xs.take m).drop l)[i]?with
 |none=>simp_all
 |some q=>simp[hq]at hys;subst hys;match k,hy with|0,hy=>grind
 simp_all;simp_all
theorem zk (hs:bA E G S a w){b:Builtin}{args:Array Operand}{types:Array TypeId}(ho:o.op=.call ⟨.builtin b,args,types⟩)(h:jY E.C S.aK b (args.toList.map S.val) types.toList K):Yields E G a w o K:=by
 have hx:=λx=>aU.val hs x;obtain⟨args⟩:=args;obtain⟨types⟩:=types;simp only at h;unfold jY at h;split at h;split at h;rename_i x t hargs;cases args with
 |nil=>simp_all
 |cons y args=>
  cases args with
  |cons z args=>simp_all
  |nil=>
   simp only[bB,fM,kS,and_true]at hargs;have hy:=hx y;rw[hargs]at hy;split at h;simp_all;rename_i ht;have hu:=(E.C.ok ht).str;split at h;rename_i s;have ey:=hy.kq;have hsz:(⟨s.toArray⟩:ByteArray).size=s.length:=by simp[ByteArray.size]
   exact Yields.same (v:=.int .i64 s.length) (by simp[execOp,ho,resolve,invoke,builtin,ey,Builtin.len_,run_underlying hu,hsz,goInt]) h (.p _ _ (.int _ _));simp_all;rename_i e _ ht;have hu:=(E.C.ok ht).slice;split at h;rename_i ob T bP;split at h;rename_i cells hcells;obtain⟨n,hn,h⟩:=h;generalize hv:a.eval y=v at hy;cases hy with
   |gH _ _ _ n' c b h1 h2 h3 h4=>obtain⟨-,-,h5⟩:=hs.cL _ _ _ _ h1 h2;have h6:=h5 cells hcells;simp only at h6;obtain rfl:n=n':=gP h4 (hn.symm.trans h6);exact Yields.same (v:=.int .i64 n) (by simp[execOp,ho,resolve,invoke,builtin,hv,Builtin.len_,run_underlying hu,goInt]) h (.p _ _ (.int _ _))
   simp_all;rename_i ob bx T bP;split at h;rename_i cells hcells;obtain⟨n,hn,h⟩:=h;generalize hv:a.eval y=v at hy;cases hy with
   |uK _ _ _ _ n' c b off h1 h2 h0 h3 h4=>
    obtain⟨-,-,h5⟩:=hs.cL _ _ _ _ h1 h2;have h6:=h5 cells hcells;simp only at h6;have e:bx+n=n':=gP h4 (hn.symm.trans h6);obtain rfl:n=n'-bx:=oO
    exact Yields.same (v:=.int .i64 ((n'-bx:Nat):Int)) (by simp[execOp,ho,resolve,invoke,builtin,hv,Builtin.len_,run_underlying hu,goInt]) h (.p _ _ (.int _ _))
   simp_all;split at h;rename_i xs hxs;obtain⟨ad,c,hv,hcap,hne⟩:=(hy.elems hxs).lG;exact Yields.same (v:=.int .i64 xs.length) (by simp[execOp,ho,resolve,invoke,builtin,hv,Builtin.len_,run_underlying hu,goInt]) h (.p _ _ (.int _ _));simp_all;simp_all
 simp_all
 ·split at h
  ·rename_i k m k' n hargs;cases args with
   |nil=>simp_all
   |cons y args=>
    cases args with
    |nil=>simp_all
    |cons z args=>
     cases args with
     |cons z args=>simp_all
     |nil=>
      simp only[bB,fM,kS,and_true]at hargs;have hy:=hx y;have hz:=hx z;rw[hargs.1]at hy;rw[hargs.2]at hz;have ey:=hy.gh;have ez:=hz.gh;split at h;case h_2=>simp_all
      rename_i hk;obtain rfl:=rX hk;obtain⟨c,rfl,h⟩:=h;exact Yields.same (v:=.int k (if n<m then n else m)) (by simp[execOp,ho,resolve,invoke,builtin,ey,ez,Builtin.min_,Builtin.min2]) h (.p _ _ (.int _ _))
  simp_all
 ·split at h
  ·rename_i k m k' n hargs;cases args with
   |nil=>simp_all
   |cons y args=>
    cases args with
    |nil=>simp_all
    |cons z args=>
     cases args with
     |cons z args=>simp_all
     |nil=>
      simp only[bB,fM,kS,and_true]at hargs;have hy:=hx y;have hz:=hx z;rw[hargs.1]at hy;rw[hargs.2]at hz;have ey:=hy.gh;have ez:=hz.gh;split at h;case h_2=>simp_all
      rename_i hk;obtain rfl:=rX hk;obtain⟨c,rfl,h⟩:=h;exact Yields.same (v:=.int k (if n>m then n else m)) (by simp[execOp,ho,resolve,invoke,builtin,ey,ez,Builtin.max_,Builtin.max2]) h (.p _ _ (.int _ _))
  simp_all
 simp_all
end
section
variable {E:Env}{G:bl}{S:an}{a:Act}{w:World}{o:Oper}{K:FV->Prop}
def zl (G:bl)(w:World)(cs:List Value)(xs:List FV):Prop:=cs.length=xs.length/\∀(i:Nat)(c:Value)(x:FV),cs[i]?=some c->xs[i]?=some x->aU G w c x
theorem eZ (xs:List AV):aH xs=xs.map FV.p:=by
 induction xs with
 |nil=>rfl
 |cons x xs ih=>simp[aH,ih]
theorem rz {xs:List FV}:jW xs=true↔∀x,x∈xs->x.one=true:=by
 induction xs with
 |nil=>simp[jW]
 |cons x xs ih=>simp only[jW];grind
theorem rA {v:Value}{x:FV}(h:aU G w v x)(h1:jW x.cells=true):zl G w v.cells.toList x.cells/\(∀u,u∈v.cells.toList->u.oneCell'=true):=by
 have one:∀{cs:List Value}{xs:List FV},zl G w cs xs->jW xs=true->∀u,u∈cs->u.oneCell'=true:=λ{cs xs} hr ho u hu=>by
  obtain⟨i,hi⟩:=List.mem_iff_getElem?.1 hu;have hl:i<xs.length:=by rw[<-hr.1];exact(aI.1 hi).1
  exact(hr.2 i u _ hi (ay hl)).Zy (rz.1 ho _ (aQ hl))
 have single:∀{v:Value}{x:FV},aU G w v x->v.cells=#[v]->zl G w v.cells.toList [x]:=λ{v x} h hv=>by rw[hv];refine⟨rfl,λi c y hc hy=>?_⟩;grind
 have key:zl G w v.cells.toList x.cells:=by
  cases h with
  |p v x h=>
   cases h with
   |agg cs xs hl ho hc=>
    simp only[FV.cells,Value.cells,eZ];refine⟨by grind,λi c y h2 h3=>?_⟩;rw[aM]at h3;cases hx:xs[i]?with
    |none=>simp_all
    |some z=>simp[hx]at h3;subst h3;exact .p _ _ (hc i c z oO hx)
   |eN cs xs hl hc=>simp[FV.cells,jW,FV.one,AV.one]at h1
   |_=>exact single (.p _ _ (by constructor<;>assumption)) rfl
  |agg cs xs hl hc=>exact⟨by simpa[Value.cells,FV.cells]using hl,λi c y h2 h3=>hc i c y (by simpa[Value.cells]using h2) h3⟩
  |eN cs xs hl hc=>simp[FV.cells,jW,FV.one]at h1
  |dW v=>simp[FV.cells,jW,FV.one]at h1
  |ptr o off b h=>exact single (.ptr o off b h) rfl
  |gd t T bP xs a c h3 h4=>exact single (.gd t T bP xs a c h3 h4) rfl
  |mh l k h=>exact single (.mh l k h) rfl
  |gH o T bP n c b q1 q2 q3 q4=>exact single (.gH o T bP n c b q1 q2 q3 q4) rfl
  |uK o x T bP n c b off q1 q2 q0 q3 q4=>exact single (.uK o x T bP n c b off q1 q2 q0 q3 q4) rfl
  |gV o base off b h=>exact single (.gV o base off b h) rfl
  |gw o b h=>exact single (.gw o b h) rfl
  |Ay o b h=>exact single (.Ay o b h) rfl
  |full xs a h=>exact single (.full xs a h) rfl
  |fn f fs cs first captured a b c d=>exact single (.fn f fs cs first captured a b c d) rfl
 grind
theorem LA {α:Type}{xs zs:List α}{n:Nat}{y:α}(h:Kt xs n y=some zs):n<xs.length/\zs=xs.set n y:=by
 induction xs generalizing n zs with
 |nil=>simp[Kt]at h
 |cons x xs ih=>
  cases n with
  |zero=>simp[Kt]at h;grind
  |succ n=>simp only[Kt]at h;grind
theorem rQ {α:Type}{xs zs:List α}{n:Nat}{ys:List α}(h:gY xs n ys=some zs):zs.length=xs.length/\(ys≠[]->n+ys.length<=xs.length)/\∀(i:Nat),zs[i]?=if n<=i/\i<n+ys.length then ys[i-n]?else xs[i]?:=by
 induction ys generalizing xs n with
 |nil=>simp only[gY,bN]at h;grind
 |cons y ys ih=>simp only[gY]at h;split at h;rename_i us hu;obtain⟨h1,rfl⟩:=LA hu;obtain⟨h2,h3,h4⟩:=ih h;refine⟨by simp_all,λ_=>?_,λi=>?_⟩;grind;rw[h4 i];by_cases hi:i=n;subst hi;grind;by_cases hlt:n+1<=i/\i<n+1+ys.length;rw[ag hlt,ag (by grind)];grind;rw[af hlt,af (by grind),Dj (eY hi)];simp_all
theorem Ik (vs:List Value)(off:Nat):∀(k:Nat)(cs:Array Value),let r:=(vs.zipIdx k).foldl (λcs (c,j)=>cs.setIfInBounds (off+j) c) cs;r.size=cs.size/\∀i,i<cs.size->r[i]?=if off+k<=i/\i<off+k+vs.length then vs[i-(off+k)]?else cs[i]?:=by
 induction vs with
 |nil=>simp_all
 |cons v vs ih=>intro k cs;simp only[List.zipIdx_cons,fN];obtain⟨h1,h2⟩:=ih (k+1) (cs.setIfInBounds (off+k) v);refine⟨by simp_all,λi hi=>?_⟩;rw[h2 i (by simp_all)];by_cases he:i=off+k;grind;by_cases hlt:off+(k+1)<=i/\i<off+(k+1)+vs.length;grind;grind
theorem Qb {place:Nat->Option (Nat×Nat)}{cells:Array Value}{i off size:Nat}{v:Value}{rest:List (Nat×Value)}(hp:place i=some (off,size))(hs:v.cells.size=size)(hb:off+size<=cells.size):Instr.fill place cells ((i,v)::rest)=Instr.fill place (v.cells.zipIdx.foldl (λcs (c,j)=>cs.setIfInBounds (off+j) c) cells) rest:=by
 have hne:¬(v.cells.size≠size\/off+v.cells.size>cells.size):=by rw[hs];omega
 simp only[Instr.fill,hp];grind
theorem LB {cells:Array Value}{xs zs:List FV}{off:Nat}{v:Value}{x:FV}(hr:zl G w cells.toList xs)(hv:aU G w v x)(h1:jW x.cells=true)(BO:gY xs off x.cells=some zs)(hne:v.cells.size=0->off<=cells.size):off+v.cells.size<=cells.size/\zl G w (v.cells.zipIdx.foldl (λcs (c,j)=>cs.setIfInBounds (off+j) c) cells).toList zs:=by
 obtain⟨Qc,hco⟩:=rA hv h1;obtain⟨g1,g2,g3⟩:=rQ BO;have hlen:v.cells.size=x.cells.length:=by rw[<-Qc.1];simp
 have hsz:cells.size=xs.length:=by rw[<-hr.1];simp
 have hb:off+v.cells.size<=cells.size:=by by_cases h0:x.cells=[];simp_all;simp_all
 refine⟨hb,?_⟩;have hf:=Ik v.cells.toList off 0 cells;have he:v.cells.zipIdx.foldl (λcs (c,j)=>cs.setIfInBounds (off+j) c) cells=(v.cells.toList.zipIdx 0).foldl (λcs (c,j)=>cs.setIfInBounds (off+j) c) cells:=by rw[<-Array.foldl_toList,Array.toList_zipIdx]
 rw[he];obtain⟨f1,f2⟩:=hf;refine⟨by simp_all,λi c y hc hy=>?_⟩;have hi:i<cells.size:=by have :=(aI.1 hy).1;omega
 rw[g3 i]at hy;rw[tj,f2 i hi]at hc;simp only[qi]at hc;by_cases hin:off<=i/\i<off+x.cells.length;rw[ag hin]at hy;rw[ag (by simp_all)]at hc;exact Qc.2 _ _ _ hc hy;rw[af hin]at hy;rw[af (by simp_all)]at hc;exact hr.2 i c y (by simp_all) hy
theorem rB (zs:List Value):zl G w zs (zs.map FV.iC):=⟨by simp,λi c x hc hx=>by rw[aM,hc]at hx;simp only[eW,bN]at hx;subst hx;exact uV _ _ _⟩
theorem GP (hs:bA E G S a w){fs:List (Nat×TypeId)}{gs:Array Field}(hfs:fs=gs.toList.map λf=>(f.offset,f.type)):∀(parts:List (Nat×Operand))(cells:Array Value)(xs zs:List FV),zl G w cells.toList xs->nD fs E.C.jE S parts xs=some zs->∃cs,Instr.fill ((gs.map λf=>(f.offset,E.C.P.cellsOf f.type))[·]?) cells (parts.map λ(i,x)=>(i,a.eval x))=some cs/\zl G w cs.toList zs:=by
 intro parts;induction parts with
 |nil=>intro cells xs zs hr h;simp only[nD,bN]at h;exact⟨cells,rfl,h▸hr⟩
 |cons p parts ih=>
  obtain⟨i,x⟩:=p;intro cells xs zs hr h;simp only[nD]at h;split at h;grind;rename_i off t r hd;split at h;grind;rename_i j hj;split at h;rename_i hz hlen h1;split at h;grind;rename_i us hu;have hv:=aU.val hs x;have hlen':(S.val x).cells.length=j.size:=aN hlen;have hgi:gs.toList[i]?.map (λf=>(f.offset,f.type))=some (off,t):=by have :=mE hd;rwa[hfs,aM]at this
  obtain⟨inf,z,Dk,hsz,-⟩:=(E.C.ok hj).info';have hcs:E.C.P.cellsOf t=j.size:=by simp[Program.cellsOf,Dk,hsz]
  have hp:(gs.map λf=>(f.offset,E.C.P.cellsOf f.type))[i]?=some (off,j.size):=by
   rw[Array.getElem?_map];cases hg:gs[i]?with
   |none=>simp_all
   |some g=>simp_all
  have Qc:=(rA hv h1).1;have hvs:(a.eval x).cells.size=j.size:=by rw[<-hlen',<-Qc.1];simp
  have h0:j.size≠0:=bH hz;obtain⟨hb,hr'⟩:=LB hr hv h1 hu (λe=>oO);obtain⟨cs,h3,h4⟩:=ih _ _ _ hr' h;refine⟨cs,?_,h4⟩;rw[bB,Qb hp hvs oO];omega;simp_all
theorem sE (hs:bA E G S a w){size:Nat}:∀(parts:List (Nat×Operand))(cells:Array Value)(xs zs:List FV),zl G w cells.toList xs->gu size S parts xs=some zs->∃cs,Instr.fill (λi=>some (i*size,size)) cells (parts.map λ(i,x)=>(i,a.eval x))=some cs/\zl G w cs.toList zs:=by
 intro parts;induction parts with
 |nil=>intro cells xs zs hr h;simp only[gu,bN]at h;exact⟨cells,rfl,h▸hr⟩
 |cons p parts ih=>
  obtain⟨i,x⟩:=p;intro cells xs zs hr h;simp only[gu]at h;split at h;rename_i hz hlen h1;split at h;grind;rename_i us hu;have hv:=aU.val hs x;have hlen':(S.val x).cells.length=size:=aN hlen;have Qc:=(rA hv h1).1;have hvs:(a.eval x).cells.size=size:=by rw[<-hlen',<-Qc.1];simp
  have h0:size≠0:=bH hz;obtain⟨hb,hr'⟩:=LB hr hv h1 hu (λe=>oO);obtain⟨cs,h3,h4⟩:=ih _ _ _ hr' h;refine⟨cs,?_,h4⟩;rw[bB,Qb rfl hvs oO];omega;simp_all
theorem gj.zeroV {P:Program}{t:TypeId}{i:jV}(h:gj P t i)(w:World):∃z,(zeroValue t).run P w=.ok z w/\z.cells.toList=i.zero:=by obtain⟨inf,z,h1,-,-,h2,h3⟩:=h.info';exact⟨z,by simp[zeroValue,run_typeInfo w h1,h2],h3⟩
theorem KA (C:Ctx){fs:List (Nat×TypeId)}{ps:List (Nat×Nat)}(h:placesOf C.jE fs=some ps):∀(gs:List Field),fs=gs.map (λf=>(f.offset,f.type))->gs.mapM (λf=>(C.P.info? f.type).map λi=>(f.offset,i.size))=some ps/\ps=gs.map λf=>(f.offset,C.P.cellsOf f.type):=by
 induction fs generalizing ps with
 |nil=>intro gs hg;simp only[placesOf,bN]at h;simp_all
 |cons p fs ih=>
  obtain⟨o,t⟩:=p;intro gs hg;cases gs with
  |nil=>simp_all
  |cons g gs=>simp only[bB,kS,Prod.mk.injEq]at hg;obtain⟨⟨rfl,rfl⟩,hg⟩:=hg;simp only[placesOf]at h;split at h;grind;rename_i j hj;split at h;grind;rename_i qs hqs;obtain rfl:=aq h;obtain⟨h1,h2⟩:=ih hqs gs hg;obtain⟨inf,z,Dk,hsz,-⟩:=(C.ok hj).info';simp only[List.mapM_cons,Dk,eW,h1];simp[hsz,h2,Program.cellsOf,Dk]
theorem NF (hs:bA E G S a w){t:TypeId}{parts:Array (Nat×Operand)}(ho:o.op=.build t parts)(h:Hh E.C S t parts.toList K):Yields E G a w o K:=by
 unfold Hh at h;split at h;rename_i fs zero ht;have hok:=E.C.ok ht;obtain⟨gs,hu,hfs⟩:=hok.struct;obtain⟨inf,z,Dk,-,-,hz,GQ⟩:=hok.info';split at h;simp_all;rename_i ps hps;split at h;rename_i cs hcs;rw[kH]at h;obtain⟨p1,p2⟩:=KA E.C hps gs.toList hfs;obtain⟨us,h3,h4⟩:=GP hs hfs parts.toList z.cells _ _ (GQ▸rB _) hcs;have hb:E.C.P.built t (parts.toList.map λ(i,x)=>(i,a.eval x))=some us:=by unfold Program.built;simp only[Dk,hu,hz,p1];rw[p2];simpa using h3
 have hrun:=run_build (P:=E.C.P) w t (parts.map λ(i,x)=>(i,a.eval x)) us (by simp_all);exact Yields.same (by simp only[execOp,ho,Sem.run_bind,hrun,Result.andThen_ok];rfl) h (by simpa using aU.agg us.toList cs h4.1 h4.2);simp_all;rename_i n e zero ht;have hok:=E.C.ok ht;have hu:=hok.array;obtain⟨inf,z,Dk,-,-,hz,GQ⟩:=hok.info';split at h;simp_all;rename_i j hj;obtain⟨anq,z',Vq,akK,-⟩:=(E.C.ok hj).info';split at h;rename_i cs hcs;rw[kH]at h;obtain⟨us,h3,h4⟩:=sE hs parts.toList z.cells _ _ (GQ▸rB _) hcs;have hb:E.C.P.built t (parts.toList.map λ(i,x)=>(i,a.eval x))=some us:=by unfold Program.built;simp only[Dk,hu,hz,Vq,akK];exact h3
 have hrun:=run_build (P:=E.C.P) w t (parts.map λ(i,x)=>(i,a.eval x)) us (by simp_all);exact Yields.same (by simp only[execOp,ho,Sem.run_bind,hrun,Result.andThen_ok];rfl) h (by simpa using aU.agg us.toList cs h4.1 h4.2);simp_all;simp_all
theorem si {α:Type}(xs:List α)(n:Nat):(pV n xs).length=n*xs.length/\∀i,i<n*xs.length->(pV n xs)[i]?=xs[i%xs.length]?:=by
 induction n with
 |zero=>simp[pV]
 |succ n ih=>refine⟨by simp[pV,ih.1,bK,nV],λi hi=>?_⟩;simp only[pV];by_cases h:i<xs.length;rw[cF h,mG h];rw[dN oO,ih.2 _ (by grind)];congr 1;exact(Nat.mod_eq_sub_mod oO).symm
theorem Il {α β:Type}(f:α->β)(xs:List α)(n:Nat):pV n (xs.map f)=(pV n xs).map f:=by
 induction n with
 |zero=>rfl
 |succ n ih=>simp[pV,ih]
theorem WJ {α:Type}(size:Nat):∀(n:Nat)(xs:List α),(chunk size n xs).length=n/\∀i zs,(chunk size n xs)[i]?=some zs->zs=(xs.drop (i*size)).take size:=by
 intro n;induction n with
 |zero=>intro xs;simp[chunk]
 |succ n ih=>
  intro xs;obtain⟨h1,h2⟩:=ih (xs.drop size);refine⟨by simp[chunk,h1],λi zs h=>?_⟩;cases i with
  |zero=>simp[chunk]at h;grind
  |succ i=>simp only[chunk,mI]at h;rw[h2 i zs h,xl,bK,kR,nV]
theorem ZC {x:FV}{y:AV}(h:x.one=true)(hy:x.fA=some y):y.one=true:=by
 cases x with
 |p z=>simp only[FV.fA,bN]at hy;subst hy;exact h
 |agg xs=>simp[FV.one]at h
 |eN xs=>simp[FV.one]at h
 |ptr o off=>simp[FV.fA]at hy
 |gd t T e xs=>simp only[FV.fA,bN]at hy;subst hy;rfl
 |mh l=>simp[FV.fA]at hy
 |gH o T e=>simp[FV.fA]at hy
 |uK o x T e=>simp[FV.fA]at hy
 |gV o b off=>simp[FV.fA]at hy
 |gw o=>simp[FV.fA]at hy
 |Ay o=>simp[FV.fA]at hy
 |full xs=>simp only[FV.fA,bN]at hy;subst hy;rfl
 |fn f a b=>simp only[FV.fA]at hy;split at hy;split at hy;obtain rfl:=aq hy;rfl;simp_all;simp_all
 |dW=>simp[FV.one]at h
theorem yy (hs:bA E G S a w){t:TypeId}{len:Nat}{parts:Array (Nat×Operand)}(ho:o.op=.buildSlice t len parts)(h:mC E.C S t len parts.toList K):∃(xs:List (List AV)) (us:Array Value) (e:TypeId) (j:jV),(∃a b z,bV E.C.jE t=some ⟨a,b,.slice e,z⟩)/\bV E.C.jE e=some j/\K (.full xs)/\(execOp a.eval o).run E.C.P w=.ok (.value (.slice (some ⟨w.heap.size,0,none⟩) xs.length xs.length)) (w.alloc (.cells us e))/\(∀zs,zs∈xs->zs.length=j.size)/\dH (λb o=>G.br b o\/(w.heap.size<=b/\b<(w.alloc (.cells us e)).heap.size/\o<xs.length*j.size)) (w.alloc (.cells us e)) (.slice (some ⟨w.heap.size,0,none⟩) xs.length xs.length) (.sl xs):=by
 unfold mC at h;split at h;rename_i e _ ht;have hu:=(E.C.ok ht).slice;split at h;simp_all;rename_i j hj;have hok:=E.C.ok hj;split at h;simp_all;rename_i hle;have hle':len*j.size<=1000000:=iD hle;split at h;rename_i cs hcs;split at h;simp_all;rename_i h1;split at h;rename_i ys hys;obtain⟨z,hzr,GQ⟩:=hok.zeroV w;have akM:z.cells.size=j.size:=by rw[<-jH,GQ,hok.len]
 have hbase:∀zz:Array Value,(len*j.size=0\/zz=z.cells)->((Array.range (len*j.size)).map (zz[·%zz.size]!)).toList=pV len j.zero:=λzz hzz=>by obtain⟨r1,r2⟩:=si j.zero len;rw[hok.len]at r1 r2;apply gz;grind
 have hrl:∀zz:Array Value,(len*j.size=0\/zz=z.cells)->zl G w ((Array.range (len*j.size)).map (zz[·%zz.size]!)).toList (pV len (j.zero.map FV.iC)):=λzz hzz=>by rw[hbase zz hzz,Il];exact rB _
 obtain⟨us,ZD,oD⟩:∃us,(∀zz:Array Value,(len*j.size=0\/zz=z.cells)->Instr.fill (λi=>some (i*j.size,j.size)) ((Array.range (len*j.size)).map (zz[·%zz.size]!)) (parts.toList.map λ(i,x)=>(i,a.eval x))=some us)/\zl G w us.toList cs:=by obtain⟨us,h3,h4⟩:=sE hs parts.toList _ _ _ (hrl z.cells (.inr rfl)) hcs;grind
 have ZE:¬len*j.size>2^24:=oO
 have hrun:(execOp a.eval o).run E.C.P w=.ok (.value (.slice (some ⟨w.heap.size,0,none⟩) len len)) (w.alloc (.cells us e)):=by
  by_cases h0:len*j.size=0;have h5:=ZD #[] (.inl h0);have h5':Instr.fill (λi=>some (i*j.size,j.size)) #[] (List.map (λx=>(x.1,a.eval x.2)) parts.toList)=some us:=by
   have h6:(Array.range (len*j.size)).map ((#[]:Array Value)[·%(#[]:Array Value).size]!)=#[]:=by rw[h0];simp
   rw[h6]at h5;exact h5
  have hm0:∀f:Nat->Value,(Array.range 0).map f=#[]:=λf=>by simp
  simp only[execOp,ho,Instr.buildSlice,Sem.run_bind,run_underlying hu,Result.andThen_ok,hok.sizeOf,ZE,if_false,h0,if_true,Sem.run_pure,nW];simp only[show¬(0>2^24)from oO,if_false,Sem.run_pure,Result.andThen_ok,hm0,h5'];rfl;have h5:=ZD z.cells (.inr rfl);simp only[execOp,ho,Instr.buildSlice,Sem.run_bind,run_underlying hu,Result.andThen_ok,hok.sizeOf,ZE,if_false,h0,Sem.run_pure,hzr,nW];simp only[h5];rfl
 obtain⟨y1,y2⟩:=FV.jk hys;have hlen:us.size=len*j.size:=by
  have h6:us.size=cs.length:=by rw[<-oD.1];simp
  have h7:∀(parts:List (Nat×Operand))(xs zs:List FV),gu j.size S parts xs=some zs->zs.length=xs.length:=by
   intro parts;induction parts with
   |nil=>intro xs zs h;simp only[gu,bN]at h;rw[h]
   |cons p parts ih=>obtain⟨i,x⟩:=p;intro xs zs h;simp only[gu]at h;split at h;split at h;grind;rename_i us ZD;rw[ih _ _ h,(rQ ZD).1];simp_all
  rw[h6,h7 _ _ _ hcs,(si _ _).1];simp[hok.len]
 have hal:Below w.heap.size w (w.alloc (.cells us e)):=(Below.refl _ _).alloc (aB _) _;obtain⟨c1,c2⟩:=WJ j.size len ys;have hcell:∀i,(w.alloc (.cells us e)).cell? ⟨w.heap.size,i,none⟩=us[i]?:=λi=>World.cell?_alloc_new w us e i;have ail:∀(i:Nat)(zs:List AV),(chunk j.size len ys)[i]?=some zs->zs.length=j.size:=λi zs hzs=>by
  have hi:i<len:=by rw[<-c1];exact(aI.1 hzs).1
  rw[c2 i zs hzs,aR,dL,y1,<-oD.1,jH,hlen];have :(i+1)*j.size<=len*j.size:=fG _ hi;grind
 have anr:dH (λb o=>G.br b o\/(w.heap.size<=b/\b<(w.alloc (.cells us e)).heap.size/\o<len*j.size)) (w.alloc (.cells us e)) (.slice (some ⟨w.heap.size,0,none⟩) (chunk j.size len ys).length len) (.sl (chunk j.size len ys)):=by
  refine dH.PR (bP:=j.size) oO ail (λi zs k y hzs hy=>?_);have hi:i<len:=by rw[<-c1];exact(aI.1 hzs).1
  have hk:k<j.size:=by have h8:=(aI.1 hy).1;rw[c2 i zs hzs,aR]at h8;omega
  rw[c2 i zs hzs,Dl hk,kM]at hy;obtain⟨x,hx,hxy⟩:=y2 _ _ hy;have hlt:i*j.size+k<us.size:=by have h9:=(aI.1 hx).1;rw[<-jH,oD.1];exact h9
  have hr:=oD.2 (i*j.size+k) us[i*j.size+k] x (by simp_all) hx;have hxo:=rz.1 h1 x (bW hx);refine⟨us[i*j.size+k],ZC hxo hxy,?_,.inr ⟨aB _,by simp,oO⟩,?_⟩;simp_all;refine(hr.fA hxy).keep (λb o hi=>.inl hi) (λb o c hi hc=>?_) (CW _ _ _);rw[World.cell?_alloc_lt _ _ _ (hs.fJ b o hi)];omega
 refine⟨chunk j.size len ys,us,e,j,⟨_,_,_,ht⟩,hj,h,by simp_all,λzs hz=>?_,by simp_all⟩;obtain⟨q,hq⟩:=iX hz;grind;simp_all;simp_all;simp_all
theorem Dm (hs:bA E G S a w){t:TypeId}{len:Nat}{parts:Array (Nat×Operand)}(ho:o.op=.buildSlice t len parts)(h:mC E.C S t len parts.toList K):Yields E G a w o K:=by obtain⟨xs,us,e,j,-,-,hK,hrun,-,hr⟩:=yy hs ho h;exact⟨_,_,_,hrun,hK,(Below.refl _ _).alloc (aB _) _,.full xs _ (hr.keep (λb o h=>h.imp id λh=>⟨h.1,h.2.1⟩) (λ_ _ _ _ h=>h) (.refl _ _))⟩
end
theorem gj.map {P:Program}{t k e:TypeId}{a b:Nat}{z:List Value}(h:gj P t ⟨a,b,.map k e,z⟩):P.underlying t=some (.map k e):=by obtain⟨d,h1,h2⟩:=h.zh;cases d<;>simp[shapeOf]at h2;simp_all
theorem nY {α:Type}(l:List (AV×α)):iP l=l.map (·.1):=by
 induction l with
 |nil=>rfl
 |cons p l ih=>obtain⟨k,x⟩:=p;simp[iP,ih]
theorem AG {α:Type}(l:List (AV×α)):BK l=l.map (·.2):=by
 induction l with
 |nil=>rfl
 |cons p l ih=>obtain⟨k,x⟩:=p;simp[BK,ih]
theorem ZF {α:Type}{ks:List AV}{xs:List α}(h:ks.length=xs.length):(rY ks xs).length=ks.length/\∀(i:Nat)(p:AV×α),(rY ks xs)[i]?=some p->ks[i]?=some p.1/\xs[i]?=some p.2:=by
 induction ks generalizing xs with
 |nil=>cases xs<;>simp_all[rY]
 |cons k ks ih=>
  cases xs with
  |nil=>grind
  |cons x xs=>
   obtain⟨h1,h2⟩:=ih (by simpa using h);refine⟨by simp[rY,h1],λi p hp=>?_⟩;cases i with
   |zero=>simp[rY]at hp;grind
   |succ i=>simp[rY]at hp;grind
theorem Dn {α:Type}(k:AV)(l:List (AV×α)):yq k l=(iL k (iP l)).bind λj=>(l[j]?).map (·.2):=by
 induction l with
 |nil=>rfl
 |cons p l ih=>
  obtain⟨k',x⟩:=p;simp only[yq,iP,iL];cases hs:qW k k' with
  |true=>simp
  |false=>
   simp only[ih];cases iL k (iP l)with
   |none=>rfl
   |some j=>simp
section
variable {E:Env}{G:bl}{S:an}{a:Act}{w:World}{o:Oper}{K:FV->Prop}
theorem Qd (hs:bA E G S a w){v:Value}{x:FV}{l:List (AV×FV)}(hx:aU G w v x)(h:x.entries S.maps=some l):∃es:List MapEntry,((v=.map none/\es=[])\/∃b gL,v=.map (some b)/\w.heap[b]?=some (.map es.toArray gL))/\es.length=l.length/\∀(i:Nat)(e:MapEntry)(p:AV×FV),es[i]?=some e->l[i]?=some p->dH G.br w e.key p.1/\aU G w e.val p.2:=by
 cases x with
 |gw ob=>
  cases hx with
  |gw _ b hb=>obtain⟨b',gL,es,h1,h2,h3,h4,h5⟩:=hs.ext'.mps.at_ ob l h;grind
 |p y=>
  cases hx with
  |p _ _ hx=>
   cases hx with
   |wM=>simp only[FV.entries,bN]at h;simp_all
   |mp b gL es ks vs h1 h2 h3 h4 h5 h6 h7=>
    simp only[FV.entries,bN]at h;subst h;obtain⟨z1,z2⟩:=ZF (ks:=ks) (xs:=aH vs) (by rw[eZ,aj];omega);refine⟨es,.inr ⟨b,gL,rfl,h4⟩,oO,λi e p he hp=>?_⟩;obtain⟨q1,q2⟩:=z2 i p hp;refine⟨h6 i e _ he q1,?_⟩;rw[eZ,aM]at q2;cases hv:vs[i]?with
    |none=>simp_all
    |some y=>simp only[hv,eW,bN]at q2;rw[<-q2];exact .p _ _ (h7 i e y he hv)
   |_=>simp[FV.entries]at h
 |_=>simp[FV.entries]at h
theorem NG {l:List (AV×FV)}{es:List MapEntry}{agg:Bool}{L:List gZ}{br:Nat->Nat->Prop}(hl:es.length=l.length)(hr:∀(i:Nat)(e:MapEntry)(p:AV×FV),es[i]?=some e->l[i]?=some p->dH br w e.key p.1)(hf:∀p,p∈l->iJ agg L p.1=true):tf agg L es (iP l):=by
 refine⟨by rw[nY,aj];omega,λi e x he hx=>?_⟩;rw[nY,aM]at hx;cases hp:l[i]?with
 |none=>simp_all
 |some p=>simp only[hp,eW,bN]at hx;subst hx;have :=hf p (bW hp);exact⟨tZ (hr i e p he hp) this,this⟩
theorem Im {P:Program}{w:World}{e:TypeId}{z:Value}(h:(P.info? e).map (·.zero)=some (some z)):(zeroValue e).run P w=.ok z w:=by
 cases hi:P.info? e with
 |none=>simp_all
 |some i=>simp only[hi,eW,bN]at h;simp[zeroValue,run_typeInfo w hi,h]
theorem Vr {ok:Bool}{v:Value}{x:FV}(h:aU G w v x)(b:Bool):aU G w (if ok then .tuple #[v,.bool b]else v) (okV ok x b):=by
 cases ok with
 |false=>exact h
 |true=>
  refine .eN [v,.bool b] [x,.p (.bool b)] rfl λi c y h1 h2=>?_;match i,h1,h2 with
   |0,h1,h2=>simp_all
   |1,h1,h2=>cases h1;cases h2;exact .p _ _ (.bool b)
theorem KB (hs:bA E G S a w){t:TypeId}{x i:Operand}{ok:Bool}(ho:o.op=.lookup t x i ok)(h:HS E.C S.maps t (S.val x) (S.val i) ok K):Yields E G a w o K:=by
 have hx:=aU.val hs x;have hi:=aU.val hs i;unfold HS at h;split at h;rename_i kT eT _ ht;have hu:=(E.C.ok ht).map;split at h;rename_i ki kk l hki hkk hl;obtain⟨L,hL,hk,hall,r,hr,h⟩:=h;have hagg:=(E.C.ok hki).iw;rw[<-hagg]at hk hall;have hkey:=tZ (hi.fA hkk) hk;obtain⟨es,hv,hlen,hent⟩:=Qd hs hx hl;have hka:=NG (w:=w) hlen (λi e p a b=>(hent i e p a b).1) hall;have NH:=λem=>(td (P:=E.C.P) (em:=em) 40).1 kT L 10000 w kk.cells dD hL (mo hk);have hfind:=wZ (w:=w) dD hL hk hka;rw[Dn]at hr;have hrun:∀res:Option (Nat×Value),found es 0 (iL kk (iP l))=res->∀v,(match res with|some (_,v')=>v=(if ok then .tuple #[v',.bool true]else v')|none=>∃z,(E.C.P.info? eT).map (·.zero)=some (some z)/\v=(if ok then .tuple #[z,.bool false]else z))->(Instr.lookup t (a.eval x) (a.eval i) ok).run E.C.P w=.ok v w:=by
  intro res hres v hvv;rw[hres]at hfind;rw[hkey];rcases hv with⟨e1,rfl⟩|⟨b,gL,e1,e2⟩;rw[e1];cases res with
  |none=>obtain⟨z,hz,rfl⟩:=hvv;simp[Instr.lookup,run_underlying hu,NH,hfind,Im hz]
  |some q=>simp[found]at hres
  rw[e1];have hg:(Go.getObj b).run E.C.P w=.ok (.map es.toArray gL) w:=by simp[Go.getObj,Sem.run,e2]
  cases res with
  |none=>obtain⟨z,hz,rfl⟩:=hvv;simp[Instr.lookup,run_underlying hu,hg,NH,hfind,Im hz]
  |some q=>obtain⟨j,v'⟩:=q;subst hvv;simp[Instr.lookup,run_underlying hu,hg,NH,hfind]
 cases fZ:iL kk (iP l)with
 |none=>rw[fZ]at hr;simp only[Option.bind_none]at hr;subst hr;obtain⟨z,hz,hK⟩:=h;have :=hrun none (by rw[fZ];rfl) _ ⟨z,hz,rfl⟩;exact Yields.same (by simp[execOp,ho,this]) hK (Vr (HZ _ _ _) false)
 |some j=>
  rw[fZ]at hr;have hj:j<(iP l).length:=by
   have :∀(ks:List AV)(j:Nat),iL kk ks=some j->j<ks.length:=by
    intro ks;induction ks with
    |nil=>intro j h;simp[iL]at h
    |cons x ks ih=>
     intro j h;simp only[iL]at h;split at h;grind;cases hq:iL kk ks with
     |none=>simp_all
     |some m=>grind
   exact this _ _ fZ
  rw[nY,aj]at hj;have YR:j<es.length:=oO
  simp only[nZ,ay hj,eW]at hr;subst hr;have :=hrun (some (j,es[j].val)) (by rw[fZ];simp[found,YR]) _ rfl;exact Yields.same (by simp[execOp,ho,this]) h (Vr (hent j _ _ (ay YR) (ay hj)).2 true)
 simp_all;simp_all
end
end Qv
