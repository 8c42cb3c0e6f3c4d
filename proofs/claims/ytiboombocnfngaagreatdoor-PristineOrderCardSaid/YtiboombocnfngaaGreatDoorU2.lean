/- Part 2 of the proof: its lemmas. No condition. -/
import Derived.Test.YtiboombocnfngaaGreatDoorU1
import Derived.RangeFuncNested
import Derived.RangeFuncCalls
import Derived.RangeFuncLeaves
import Derived.RangeFuncBound
import Derived.TacticsIn
import Derived.OrdersIn
import Derived.ChangeKeysEq
import Derived.Laws.StructEq
import Derived.MapKept
import Derived.Laws.IdiomCopy
import Derived.Laws.Entries
import Derived.Laws.Small
import Derived.Laws.BytesString
import Derived.Laws.MathBits
import Derived.Maps.RangeRun
set_option maxRecDepth 10000
set_option maxHeartbeats 80000000
set_option linter.all false
namespace Qv
open Go Go.RowKit
structure Kept (own:List Nat)(rP:List (Nat×Nat))(w w':World):Prop where
 os:w'.os=w.os
 tape:w'.tape=w.tape
 output:w'.output=w.output
 size:w.heap.size<=w'.heap.size
 block:∀k,k<w.heap.size->k∉own->w'.heap[k]?=w.heap[k]?
 shape:∀k cs T fr,(∃o,(o,k)∈rP)->w.heap[k]?=some (.cells cs T fr)->∃cs',w'.heap[k]?=some (.cells cs' T fr)/\cs'.size=cs.size
structure Env where
 C:Ctx
 w0:World
 Ek:Nat->Nat->Prop
 hJ:C.J w0
 hn:C.mV<=w0.heap.size
 mj:Option Nat
 bK:List (Array Value)
 loops:List (Nat×Loop)
 fixed:List Nat
 own:List Nat:=[]
 hown:∀b,b∈own->C.mV<=b/\b<w0.heap.size/\∀o,¬Ek b o:=by intro _ h;cases h
 rP:List (Nat×Nat):=[]
 rows:List Nat:=[]
 Co:∀p,p∈rP->p.2∈own/\p.2∉rows:=by intro _ h;cases h
 hrows:∀r,r∈rows->r∈own:=by intro _ h;cases h
def Env.mine (E:Env)(o b:Nat):Prop:=(E.w0.heap.size<=b/\iw o=false)\/(iw o=true/\(o,b)∈E.rP)
theorem Env.Cp {E:Env}{o b:Nat}(h:E.mine o b):E.w0.heap.size<=b\/b∈E.own:=h.imp (λh=>h.1) λh=>(E.Co _ h.2).1
theorem iW {l:List (Nat×List FV)}{d:Nat}{cs:List FV}(h:Av l d=some cs):iw d=false/\Qv.getObj l d=some cs:=by unfold Av at h;split at h;cases h;rename_i hb;exact⟨hb,h⟩
theorem Env.HA {E:Env}{o b:Nat}(h:E.mine o b)(ho:iw o=false):E.w0.heap.size<=b:=by rcases h with h|h;exact h.1;rw[ho]at h;cases h.1
theorem Env.Mv {E:Env}{o b k:Nat}(h:E.mine o b)(hk:k<E.w0.heap.size)(hk':k∉E.own):k≠b:=by rintro rfl;rcases E.Cp h with h|h;omega;exact hk' h
theorem Env.OD {E:Env}{b c:Nat}(h:E.mine 999999 b)(ho:E.rP=[(999999,c)]):b=c:=by rcases h with h|h;exact absurd h.2 dD;have :=h.2;rw[ho]at this;simpa using this
def zS.of (r:Loop):zS->Loop|.ready=>{r with state:=.ready,pending:=none}|.busy=>{r with state:=.busy,pending:=none}|.Mj=>{r with state:=.done,pending:=some .ret}|.Hh id=>{r with state:=.done,pending:=some (.exit id)}
abbrev mark (r:Nat):Deferred:={target:=.collected r,args:=#[]}
def acB (bk:Nat->Nat->Prop)(w:World)(es:List MapEntry)(l:List (AV×AV)):Prop:=es.length=l.length/\∀(i:Nat)(e:MapEntry)(p:AV×AV),es[i]?=some e->l[i]?=some p->dA bk w e.key p.1/\dA bk w e.val p.2
def ahn (es:List MapEntry)(seen:Array Nat):List MapEntry:=es.filter λe=>!seen.contains e.born
def acC (bk:Nat->Nat->Prop)(w:World)(r:Nat)(x:Option (AV×AV)×List (AV×AV)):Prop:=(x=(none,[])/\w.heap[r]?=some (.mapIter none 0 #[] 0))\/∃(m gu:Nat) (es:List MapEntry) (seen:Array Nat),w.heap[r]?=some (.mapIter (some m) gu seen gu)/\w.heap[m]?=some (.map es.toArray gu)/\bk m 0/\pV es gu/\acB bk w (ahn es seen) x.2/\∀p,x.1=some p->∃(e:MapEntry) (aho:Array Nat),e∈es/\seen=aho.push e.born/\dA bk w e.key p.1/\dA bk w e.val p.2
def acD:Nm->Nat×Nat->Prop|.inl _,_=>True|.inr _,fr=>fr=(0,0)
def El (G:bf)(T:TypeId)(z o:Nat)(e:MapEntry):Prop:=∃(a:Option Addr) (n c:Nat),e.val=.slice a n c/\((n=0/\c=0)\/∃b off,(a=some ⟨b,off,none⟩/\off=0)/\G.tail (.inr (o,e.born))=some (b,off+n*z,off+c*z,T))
structure XT (E:Env)(G:bf)(S:aj)(w:World):Prop where
 at_:∀o l,getM S.maps o=some l->∃(b gu:Nat) (es:List MapEntry),G.mp o=some b/\w.heap[b]?=some (.map es.toArray gu)/\pV es gu/\es.length=l.length/\∀(i:Nat)(e:MapEntry)(p:AV×FV),es[i]?=some e->l[i]?=some p->dA G.bk w e.key p.1/\aT G w e.val p.2
 loc:∀o b,G.mp o=some b->E.mine o b/\(∀i,¬G.bk b i)/\∃es gu,w.heap[b]?=some (.map es gu)
 inj:∀o o' b,G.mp o=some b->G.mp o'=some b->o=o'
 je:∀q x,getM S.je q=some x->∃r,G.it q=some r/\acC G.bk w r x
 AG:∀q r,G.it q=some r->E.w0.heap.size<=r/\∃m s seen c,w.heap[r]?=some (.mapIter m s seen c)
 AH:∀q q' r,G.it q=some r->G.it q'=some r->q=q'
 apart:∀o o' b,G.mp o=some b->G.loc o'≠some b
 room:∀(o:Nat)(T:TypeId)(z:Nat)(k:Option AV)(l:List (AV×FV))(b gu:Nat)(es:List MapEntry),getM S.maps o=some l->getM E.C.ex.Mi o=some (T,z,k)->G.mp o=some b->w.heap[b]?=some (.map es.toArray gu)->∀(i:Nat)(e:MapEntry)(p:AV×FV),es[i]?=some e->l[i]?=some p->k≠some p.1->El G T z o e
structure Ext (E:Env)(G:bf)(S:aj)(a:Act)(w:World):Prop where
 mps:XT E G S w
 lz:S.bK.length=E.bK.length
 bK:∀(i:Nat)(vals:Array Value)(fr:Fr),E.bK[i]?=some vals->S.bK[i]?=some fr->vals.size=fr.n/\∀j,j<fr.n->aT G w (vals.getD j undef) (fr.tmps j)
 kg:S.cF.length=E.loops.length
 loops:∀(i k:Nat)(r:Loop)(st:zS),E.loops[i]?=some (k,r)->S.cF[i]?=some st->E.w0.heap.size<=k/\w.heap[k]?=some (.loop (st.of r))
 lB:∀(i j k:Nat)(r r':Loop),E.loops[i]?=some (k,r)->E.loops[j]?=some (k,r')->i=j
 yl:∀(i k:Nat)(r:Loop),E.loops[i]?=some (k,r)->∀k',G.yl (1000000+i)=some k'->k'=k
 mj:∀l,E.mj=some l->∃(i:Nat) (r:Loop),E.loops[i]?=some (l,r)
 marks:∃ms:List Nat,a.defers=ms.map mark/\(ms++E.fixed).Nodup/\∀r,r∈ms++E.fixed->E.w0.heap.size<=r/\w.heap[r]?=some (.deferred (some []))
 Ay:pW G.bk w
def fV (w w':World):Prop:=∀(k:Nat)(o:Obj),w.heap[k]?=some o->o.isCells=false->w'.heap[k]?=some o
theorem fV.refl (w:World):fV w w:=λ_ _ h _=>h
theorem fV.trans {A B C:World}(h:fV A B)(h':fV B C):fV A C:=λk o a b=>h' k o (h k o a b) b
theorem fV.Cq {w w':World}(h:Below w.heap.size w w'):fV w w':=λk o hk _=>by rw[h.block k (bq.1 hk).1];omega
theorem Cr {w:World}{b i:Nat}{es:Array MapEntry}{n:Nat}(h:w.heap[b]?=some (.map es n)):w.cell? ⟨b,i,none⟩=none:=by simp[World.cell?,h]
theorem fV.pY {w w':World}(h:fV w w')(bk:Nat->Nat->Prop):vV bk w w':=λb es k _ hb=>h b _ hb rfl
theorem acB.keep {bk uo:Nat->Nat->Prop}{w w':World}{es:List MapEntry}{l:List (AV×AV)}(h:acB bk w es l)(hk:∀v x,dA bk w v x->dA uo w' v x):acB uo w' es l:=⟨h.1,λi e p h1 h2=>⟨hk _ _ (h.2 i e p h1 h2).1,hk _ _ (h.2 i e p h1 h2).2⟩⟩
theorem acC.keep {bk uo:Nat->Nat->Prop}{w w':World}{r:Nat}{x:Option (AV×AV)×List (AV×AV)}(h:acC bk w r x)(hk:∀v x,dA bk w v x->dA uo w' v x)(hi:∀b,bk b 0->uo b 0)(hr:∀m s seen c,w.heap[r]?=some (.mapIter m s seen c)->w'.heap[r]?=some (.mapIter m s seen c))(hm:vV bk w w'):acC uo w' r x:=by rcases h with⟨h1,h2⟩|⟨m,gu,es,seen,h1,h2,h3,h4,h5,h6⟩;exact .inl ⟨h1,hr _ _ _ _ h2⟩;refine .inr ⟨m,gu,es,seen,hr _ _ _ _ h1,hm _ _ _ h3 h2,hi _ h3,h4,h5.keep hk,λp hp=>?_⟩;grind
theorem Mw (l:List (AV×FV)):uq (λx=>x) l=l:=by
 induction l with
 |nil=>rfl
 |cons p l ih=>obtain⟨k,x⟩:=p;simp[uq,ih]
theorem XT.env {E E':Env}{G:bf}{S S':aj}{w:World}(h:XT E G S w)(hE:E'.w0=E.w0)(hm:S'.maps=S.maps)(hi:S'.je=S.je)(hC:E'.C=E.C:=by rfl)(hL:E'.rP=E.rP:=by rfl):XT E' G S' w:=⟨λo l q=>h.at_ o l (hm▸q),λo b q=>by unfold Env.mine;rw[hE,hL];exact h.loc o b q,h.inj,λq x p=>h.je q x (hi▸p),λq r p=>hE▸h.AG q r p,h.AH,h.apart,λo T z k l b gu es q1 q2 q3 q4 i e p q5 q6 q7=>h.room o T z k l b gu es (hm▸q1) (hC▸q2) q3 q4 i e p q5 q6 q7⟩
theorem Mx {es es':List MapEntry}{c c':Nat}{o:Option Obj}(h:o=some (.map es.toArray c))(h':o=some (.map es'.toArray c')):es'=es:=by simp_all
structure lY (f:FV->FV)(G G':bf)(S S':aj)(w:World):Prop where
 p:∀x,f (.p x)=.p x
 maps:∀o l',getM S'.maps o=some l'->∃l,getM S.maps o=some l/\l'=uq f l/\∀b,G.mp o=some b->G'.mp o=some b
 je:∀q x,getM S'.je q=some x->getM S.je q=some x/\∀r,G.it q=some r->G'.it q=some r
 mp:∀o b,G'.mp o=some b->G.mp o=some b
 it:∀o b,G'.it o=some b->G.it o=some b
 aeW:∀b i es k,w.heap[b]?=some (.map es k)->(∃o,G'.mp o=some b)->G'.bk b i->G.bk b i
 aeX:∀b,G.bk b 0->G'.bk b 0
 loc:∀o b,G'.loc o=some b->G.loc o=some b\/∀es k,w.heap[b]?≠some (.map es k)
 tail:∀q r,G.tail (.inr q)=some r->G'.tail (.inr q)=some r
theorem lY.same {G G':bf}{S S':aj}{w:World}(h1:S'.maps=S.maps)(h2:S'.je=S.je)(h3:G'.mp=G.mp)(h4:G'.it=G.it)(h5:G'.bk=G.bk)(h6:G'.loc=G.loc)(ht:∀q r,G.tail (.inr q)=some r->G'.tail (.inr q)=some r:=by first|exactλ_ _ h=>h|exactλ_ _ h=>(af (λe=>nomatch e)).trans h):lY (λx=>x) G G' S S' w:=⟨λ_=>rfl,λo l' h=>⟨l',h1▸h,(Mw l').symm,λb hb=>h3▸hb⟩,λq x h=>⟨h2▸h,λr hr=>h4▸hr⟩,λo b h=>h3▸h,λo b h=>h4▸h,λ_ _ _ _ _ _ h=>h5▸h,λ_ h=>h5▸h,λ_ _ h=>.inl (h6▸h),ht⟩
theorem lY.more {G G':bf}{S S':aj}{w:World}(h1:S'.maps=S.maps)(h2:S'.je=S.je)(h3:G'.mp=G.mp)(h4:G'.it=G.it)(h5:∀b i,G'.bk b i->G.bk b i\/w.heap.size<=b)(h6:∀b,G.bk b 0->G'.bk b 0)(h7:∀o b,G'.loc o=some b->G.loc o=some b\/∀es k,w.heap[b]?≠some (.map es k))(ht:∀q r,G.tail (.inr q)=some r->G'.tail (.inr q)=some r:=by first|exactλ_ _ h=>h|exactλ_ _ h=>(af (λe=>nomatch e)).trans h):lY (λx=>x) G G' S S' w:=⟨λ_=>rfl,λo l' h=>⟨l',h1▸h,(Mw l').symm,λb hb=>h3▸hb⟩,λq x h=>⟨h2▸h,λr hr=>h4▸hr⟩,λo b h=>h3▸h,λo b h=>h4▸h,λb i _ _ hb _ h=>(h5 b i h).elim id λh=>by simp_all,h6,h7,ht⟩
theorem XT.move {E:Env}{G G':bf}{S S':aj}{w w':World}(h:XT E G S w)(f:FV->FV)(hk:∀v x,aT G w v x->aT G' w' v (f x))(hw:fV w w')(hm:lY f G G' S S' w):XT E G' S' w':=by
 have hp:∀v x,dA G.bk w v x->dA G'.bk w' v x:=λv x hv=>by
  have h1:=hk v (.p x) (.p v x hv);rw[hm.p]at h1;cases h1 with
  |p _ _ h2=>omega
 refine⟨λo l' hl=>?_,λo b hb=>?_,λo o' b h1 h2=>h.inj o o' b (hm.mp _ _ h1) (hm.mp _ _ h2),λq x hx=>?_,λq r hr=>?_,λq q' r h1 h2=>h.AH q q' r (hm.it _ _ h1) (hm.it _ _ h2),λo o' b h1 h2=>?_,λo T z k l' b' Bh es' q1 q2 q3 q4 i e p q5 q6 q7=>?_⟩;obtain⟨l,h1,rfl,h2⟩:=hm.maps o l' hl;obtain⟨b,gu,es,h3,h4,h5,h6,h7⟩:=h.at_ o l h1;refine⟨b,gu,es,h2 b h3,hw _ _ h4 rfl,h5,by rw[vY,ah];omega,λi e p he hpp=>?_⟩;rw[vY,aN]at hpp;grind;obtain⟨h1,h2,es,gu,h3⟩:=h.loc o b (hm.mp _ _ hb);exact⟨h1,λi hi=>h2 i (hm.aeW b i es gu h3 ⟨o,hb⟩ hi),es,gu,hw _ _ h3 rfl⟩;obtain⟨h1,h2⟩:=hm.je q x hx;obtain⟨r,h3,h4⟩:=h.je q x h1;exact⟨r,h2 r h3,h4.keep hp hm.aeX (λm s seen c h=>hw _ _ h rfl) (hw.pY _)⟩;obtain⟨h1,m,s,seen,c,h2⟩:=h.AG q r (hm.it _ _ hr);exact⟨h1,m,s,seen,c,hw _ _ h2 rfl⟩;rcases hm.loc o' b h2 with h3|h3;exact h.apart o o' b (hm.mp _ _ h1) h3;obtain⟨-,-,es,k,h4⟩:=h.loc o b (hm.mp _ _ h1);simp_all;obtain⟨l,h1,rfl,h2⟩:=hm.maps o l' q1;obtain⟨b,gu,es,h3,h4,h5,h6,h7⟩:=h.at_ o l h1;obtain rfl:b=b':=by simp_all
 obtain rfl:=Mx (hw _ _ h4 rfl) q4;rw[vY,aN]at q6;cases hq:l[i]?with
 |none=>simp_all
 |some q=>simp only[hq,eM,bN]at q6;subst q6;obtain⟨ad,n,c,g1,g2⟩:=h.room o T z k l b gu es' h1 q2 h3 h4 i e q q5 hq q7;exact⟨ad,n,c,g1,g2.imp id λ⟨b2,off,g3,g4⟩=>⟨b2,off,g3,hm.tail _ _ g4⟩⟩
theorem pW.of {G G':bf}{w w':World}(h:pW G.bk w)(hk:∀v x,aT G w v x->aT G' w' v x):pW G'.bk w':=λg xs hg=>by
 have key:∀v x,dA G.bk w v x->dA G'.bk w' v x:=λv x hv=>by
  have h1:=hk v (.p x) (.p v x hv);cases h1 with
  |p _ _ h2=>omega
 exact key _ _ (h g xs hg)
theorem Ext.move {E:Env}{G G':bf}{S S':aj}{a a':Act}{w w':World}(h:Ext E G S a w)(f:FV->FV)(hd:a'.defers=a.defers)(hp:S'.cF=S.cF)(hs:S'.bK=yj f S.bK)(hk:∀v x,aT G w v x->aT G' w' v (f x))(hw:fV w w')(HB:lY f G G' S S' w)(hy:∀l k,G'.yl l=some k->G.yl l=some k:=by intro _ _ h;exact h):Ext E G' S' a' w':=by
 refine⟨h.mps.move f hk hw HB,by rw[hs,Hi,ah];exact h.lz,λi vals fr h1 h2=>?_,by rw[hp];exact h.kg,λi k r st h1 h2=>?_,h.lB,λi k r h1 k' h2=>h.yl i k r h1 k' (hy _ _ h2),h.mj,?_,λg xs hg=>?_⟩;rw[hs,Hi,aN]at h2;cases hx:S.bK[i]?with
 |none=>simp_all
 |some fr0=>simp[hx]at h2;subst h2;obtain⟨h3,h4⟩:=h.bK i vals fr0 h1 hx;exact⟨h3,λj hj=>hk _ _ (h4 j hj)⟩
 obtain⟨h3,h4⟩:=h.loops i k r st h1 (hp▸h2);exact⟨h3,hw _ _ h4 rfl⟩;obtain⟨ms,h1,h2,h3⟩:=h.marks;exact⟨ms,hd.trans h1,h2,λr hr=>⟨(h3 r hr).1,hw _ _ (h3 r hr).2 rfl⟩⟩;have key:∀v x,dA G.bk w v x->dA G'.bk w' v x:=λv x hv=>by
  have h1:=hk v (.p x) (.p v x hv);rw[HB.p]at h1;cases h1 with
  |p _ _ h2=>omega
 exact key _ _ (h.Ay g xs hg)
theorem Ys (rs:List Fr):yj (λx=>x) rs=rs:=by
 induction rs with
 |nil=>rfl
 |cons r rs ih=>simp[yj,ih,Fr.map]
theorem Ext.keep {E:Env}{G G':bf}{S S':aj}{a a':Act}{w w':World}(h:Ext E G S a w)(hd:a'.defers=a.defers)(hp:S'.cF=S.cF)(hs:S'.bK=S.bK)(hk:∀v x,aT G w v x->aT G' w' v x)(hw:fV w w')(hy:∀l k,G'.yl l=some k->G.yl l=some k:=by intro _ _ h;exact h)(HB:lY (λx=>x) G G' S S' w:=by exact lY.same rfl rfl rfl rfl rfl rfl):Ext E G' S' a' w':=h.move (λx=>x) hd hp (by rw[Ys];omega) hk hw HB hy
structure Bld (E:Env)(G:bf)(S:aj)(w:World):Prop where
 at_:∀o bs,lT S.cT o=some bs->getObj S.aI o=none/\∃b,G.loc o=some b/\yh E.C w b (G.row o) bs
 row:∀o r,G.row o=some r->(E.w0.heap.size<=r\/(o=999999/\r∈E.rows))/\r<w.heap.size/\(∀i,¬G.bk r i)/\(∀o',G.loc o'≠some r)/\(∀t q,G.tail t≠some (r,q))/\∀o',G.row o'=some r->o'=o
 di:∀o r,G.row o=some r->∃cs T fr,w.heap[r]?=some (.cells cs T fr)
theorem yh.keep {C:Ctx}{w w':World}{b:Nat}{row:Option Nat}{bs:List UInt8}(h:yh C w b row bs)(hb:w'.heap[b]?=w.heap[b]?)(hr:∀r,row=some r->w'.heap[r]?=w.heap[r]?):yh C w' b row bs:=by obtain⟨p,v,h1,h2,h3⟩:=h;refine⟨p,v,h1,hb.trans h2,?_⟩;grind
theorem Bld.keep {E E':Env}{G G':bf}{S S':aj}{w w':World}(h:Bld E G S w)(hC:E'.C=E.C)(hw0:E'.w0=E.w0)(hS:∀o bs,lT S'.cT o=some bs->lT S.cT o=some bs/\G'.loc o=G.loc o/\G'.row o=G.row o)(hO:∀o bs,lT S'.cT o=some bs->getObj S.aI o=none->getObj S'.aI o=none)(hrow:∀o r,G'.row o=some r->G.row o=some r)(hsz:w.heap.size<=w'.heap.size)(hb:∀o bs b,lT S.cT o=some bs->getObj S.aI o=none->G.loc o=some b->w'.heap[b]?=w.heap[b]?)(hr:∀o r,G.row o=some r->w'.heap[r]?=w.heap[r]?)(Bi:∀o r i,G.row o=some r->G'.bk r i->G.bk r i)(fF:∀o r o',G.row o=some r->G'.loc o'=some r->G.loc o'=some r)(ahp:∀o r t q,G.row o=some r->G'.tail t=some (r,q)->∃t' q',G.tail t'=some (r,q'))(hown:E'.rows=E.rows:=by rfl):Bld E' G' S' w':=by refine⟨λo bs hq=>?_,λo r hq=>?_,λo r hq=>by rw[hr o r (hrow o r hq)];exact h.di o r (hrow o r hq)⟩;obtain⟨h1,h2,h3⟩:=hS o bs hq;obtain⟨h4,b,h5,h6⟩:=h.at_ o bs h1;refine⟨hO o bs hq h4,b,h2.trans h5,?_⟩;rw[h3,hC];exact h6.keep (hb o bs b h1 h4 h5) (λr e=>hr o r e);have h0:=hrow o r hq;obtain⟨h1,h2,h3,h4,h5,h6⟩:=h.row o r h0;grind
theorem Bld.same {E E':Env}{G:bf}{S S':aj}{w w':World}(h:Bld E G S w)(hC:E'.C=E.C)(hw0:E'.w0=E.w0)(hS:S'.cT=S.cT)(hO:S'.aI=S.aI)(hsz:w.heap.size<=w'.heap.size)(hb:∀o bs b,lT S.cT o=some bs->getObj S.aI o=none->G.loc o=some b->w'.heap[b]?=w.heap[b]?)(hr:∀o r,G.row o=some r->w'.heap[r]?=w.heap[r]?)(hown:E'.rows=E.rows:=by rfl):Bld E' G S' w':=h.keep hC hw0 (λo bs q=>⟨hS▸q,rfl,rfl⟩) (λo _ _ q=>hO▸q) (λ_ _ e=>e) hsz hb hr (λ_ _ _ _ e=>e) (λ_ _ _ _ e=>e) (λ_ _ t q _ e=>⟨t,q,e⟩) hown
structure bt (E:Env)(G:bf)(S:aj)(a:Act)(w:World):Prop where
 kept:Kept E.own E.rP E.w0 w
 size:a.tmps.size=S.n
 ext':Ext E G S a w
 iX:Bld E G S w
 nN:∀b o,G.bk b o->E.Ek b o\/E.w0.heap.size<=b
 fh:∀b o,G.bk b o->b<w.heap.size
 tmps:∀i,i<S.n->aT G w (a.tmps.getD i undef) (S.tmps i)
 aI:∀o cells,getObj S.aI o=some cells->∃b,G.loc o=some b/\∀(i:Nat)(x:FV),cells[i]?=some x->∃c,w.cell? ⟨b,i,none⟩=some c/\aT G w c x
 gG:∀o b,G.loc o=some b->b<w.heap.size/\E.mine o b/\∀i,¬G.bk b i/\w.frozen? ⟨b,i,none⟩=false
 eY:∀o o' b,G.loc o=some b->G.loc o'=some b->o=o'
 cz:∀o t b r,G.loc o=some b->G.tail t=some (b,r)->t=o/\lT S.cT o=none/\∀cells,getObj S.aI o=some cells->cells.length=r.1
 fQ:∀t b s e T,G.tail t=some (b,s,e,T)->b<w.heap.size/\E.w0.heap.size<=b/\(∃cs fr,w.heap[b]?=some (.cells cs T fr)/\acD t fr)/\∀i,s<=i->i<e->(∃c,w.cell? ⟨b,i,none⟩=some c)/\w.frozen? ⟨b,i,none⟩=false/\¬G.bk b i
 er:∀t t' b r r',G.tail t=some (b,r)->G.tail t'=some (b,r')->t=t'
def nO (E:Env)(S:aj)(a:Act)(w:World):Prop:=∃G,bt E G S a w
theorem nO.weaken {E:Env}{S S':aj}{a:Act}{w:World}(h:nO E S a w)(hw:cK S S'):nO E S' a w:=by
 obtain⟨G,h⟩:=h;refine⟨G,h.kept,h.size.trans hw.n.symm,⟨⟨λo l' hl=>?_,h.ext'.mps.loc,h.ext'.mps.inj,λq x hx=>h.ext'.mps.je q x (hw.je q x hx),h.ext'.mps.AG,h.ext'.mps.AH,h.ext'.mps.apart,λo T z k l' b gu es q1 q2 q3 q4 i e p q5 q6 q7=>?_⟩,hw.bK.1.trans h.ext'.lz,λi vals fr h1 h2=>?_,by rw[hw.cF];exact h.ext'.kg,λi k r st h1 h2=>h.ext'.loops i k r st h1 (hw.cF▸h2),h.ext'.lB,h.ext'.yl,h.ext'.mj,h.ext'.marks,h.ext'.Ay⟩,⟨λo bs q=>⟨(hw.cT o bs q).2 (h.iX.at_ o bs (hw.cT o bs q).1).1,(h.iX.at_ o bs (hw.cT o bs q).1).2⟩,h.iX.row,h.iX.di⟩,h.nN,h.fh,λi hi=>hw.tmps i _ _ _ (h.tmps i (hw.n▸hi)),λo ys ho=>?_,h.gG,h.eY,λo t b r h1 h2=>?_,h.fQ,h.er⟩;obtain⟨l,h1,h2,h3⟩:=hw.maps o l' hl;obtain⟨b,gu,es,h4,h5,h6,h7,h8⟩:=h.ext'.mps.at_ o l h1;refine⟨b,gu,es,h4,h5,h6,h7.trans h2,λi e p he hp=>?_⟩;have Eb:i<l.length:=by rw[h2];exact(aJ.1 hp).1
 obtain⟨h9,h10⟩:=h3 i _ p (av Eb) hp;obtain⟨h11,h12⟩:=h8 i e _ he (av Eb);exact⟨h9▸h11,h10 _ _ _ h12⟩;obtain⟨l,h1,h2,h3⟩:=hw.maps o l' q1;have Eb:i<l.length:=by rw[h2];exact(aJ.1 q6).1
 obtain⟨h9,-⟩:=h3 i _ p (av Eb) q6;exact h.ext'.mps.room o T z k l b gu es h1 q2 q3 q4 i e _ q5 (av Eb) (h9▸q7);have hl:i<S.bK.length:=by rw[<-hw.bK.1];exact(aJ.1 h2).1
 obtain⟨h3,h4,h5⟩:=hw.bK.2 i _ fr (av hl) h2;obtain⟨h6,h7⟩:=h.ext'.bK i vals _ h1 (av hl);exact⟨h6.trans h3.symm,λj hj=>h5 j _ _ _ (h7 j (h3▸hj))⟩;obtain⟨xs,h1,h2,h3⟩:=hw.aI o ys ho;obtain⟨b,h4,h5⟩:=h.aI o xs h1;refine⟨b,h4,λi y hy=>?_⟩;have hl:i<xs.length:=by rw[h2];exact(aJ.1 hy).1
 obtain⟨c,h6,h7⟩:=h5 i _ (av hl);exact⟨c,h6,h3 i _ _ (av hl) hy _ _ _ h7⟩;obtain⟨h3,h4,h5⟩:=h.cz o t b r h1 h2;refine⟨h3,?_,λys ho=>?_⟩;cases hb:lT S'.cT o with
 |none=>rfl
 |some bs=>rw[(hw.cT o bs hb).1]at h4;omega
 obtain⟨xs,h6,h7,-⟩:=hw.aI o ys ho;simp_all
theorem bt.J {E:Env}{G:bf}{S:aj}{a:Act}{w:World}(h:bt E G S a w):(E.C.J w/\pW G.bk w)/\E.C.mV<=w.heap.size:=⟨⟨E.C.afF E.w0 w (λk hk=>h.kept.block k (dW hk E.hn) λhm=>by have :=(E.hown k hm).1;omega) E.hJ,h.ext'.Ay⟩,ck E.hn h.kept.size⟩
theorem kj {a:Act}{t:Nat}:a.eval (.tmp t)=a.tmps.getD t undef:=rfl
theorem aT.get {E:Env}{G:bf}{S:aj}{a:Act}{w:World}(h:bt E G S a w)(t:Nat):aT G w (a.tmps.getD t undef) (S.get t):=by unfold aj.get;split;rename_i hb;exact h.tmps t (by simp_all);exact .dR _
theorem RP (bk:Nat->Nat->Prop)(w:World)(s:ByteArray):dA bk w (.string s) (.str s.data.toList):=by have :=dA.str (bk:=bk) (w:=w) s.data.toList;omega
theorem uC (G:bf)(w:World)(v:Value):aT G w v (FV.gv v):=by unfold FV.gv;split;exact .p _ _ (.bool _);exact .p _ _ (.int _ _);exact .p _ _ (RP _ _ _);exact .p _ _ .yg;exact .p _ _ .Ee;exact .p _ _ .tH;exact .p _ _ .vU;exact .full [] none (.TZ none 0);exact .dR _
theorem HC (G:bf)(w:World)(v:Value):aT G w v (FV.Ol v):=by unfold FV.Ol;split;rename_i cs;have :=aT.agg (G:=G) (w:=w) cs.toList (cs.toList.map FV.gv) (by simp) (λi c x h1 h2=>by rw[aN,h1]at h2;simp only[eM,bN]at h2;subst h2;exact uC _ _ _);omega;exact .p _ _ (by simpa using dA.eW (bk:=G.bk) (w:=w) [] [] rfl (by simp));exact uC _ _ _
theorem aT.val {E:Env}{G:bf}{S:aj}{a:Act}{w:World}(h:bt E G S a w)(x:Operand):aT G w (a.eval x) (S.val x):=by
 cases x with
 |tmp t=>exact aT.get h t
 |const v=>exact HC _ _ _
 |func f=>exact .p _ _ (by simpa[Act.eval]using dA.fn (bk:=G.bk) (w:=w) (.func f) [] [] [] [] rfl rfl (by simp) (by simp))
 |global g=>simp only[aj.val];split;rename_i xs hg;exact .p _ _ (h.ext'.Ay g xs hg);exact .dR _
theorem bt.put {E:Env}{G:bf}{S:aj}{a:Act}{w:World}(h:bt E G S a w)(dst:Option Nat){v:Value}{x:FV}(hv:aT G w v x):bt E G (S.put dst x) (a.put dst v) w:=by
 cases dst with
 |none=>exact h
 |some d=>
  refine⟨h.kept,by simpa[Act.put,aj.put]using h.size,h.ext'.keep rfl rfl rfl (λ_ _ h=>h) (.refl _),⟨h.iX.at_,h.iX.row,h.iX.di⟩,h.nN,h.fh,λi hi=>?_,h.aI,h.gG,h.eY,h.cz,h.fQ,h.er⟩;have hi':i<a.tmps.size:=by rw[h.size];exact hi
  simp only[aj.put,Act.put];by_cases hd:i=d;simp_all;have :Nat.beq i d=false:=by cases hb:Nat.beq i d;rfl;simp_all
  rw[this];have :=h.tmps i hi;simpa[Array.getD,hi',Cs,eu hd]using this
theorem bt.OE {E:Env}{G:bf}{S:aj}{a:Act}{w w':World}(h:bt E G S a w)(hb:Below w.heap.size w w')(N:Nat->Nat->Prop):bt E {G with bk:=λb o=>G.bk b o\/(w.heap.size<=b/\b<w'.heap.size/\N b o)} S a w':=by have hcell:∀b i,b<w.heap.size->w'.cell? ⟨b,i,none⟩=w.cell? ⟨b,i,none⟩:=λb i hl=>hb.cell (p:=⟨b,i,none⟩) hl;have Fo:∀b i,b<w.heap.size->w'.frozen? ⟨b,i,none⟩=w.frozen? ⟨b,i,none⟩:=λb i hl=>hb.frozen (p:=⟨b,i,none⟩) hl;have keep:∀v x,aT G w v x->aT {G with bk:=λb o=>G.bk b o\/(w.heap.size<=b/\b<w'.heap.size/\N b o)} w' v x:=λv x hv=>hv.keep (λb o hi=>.inl hi) (λb o c hi hc=>by rw[hcell b o (h.fh b o hi)];omega) ((fV.Cq hb).pY _) (λ_ _ e=>e) (λ_ _ e=>e);refine⟨⟨hb.os.trans h.kept.os,hb.tape.trans h.kept.tape,hb.output.trans h.kept.output,ck h.kept.size hb.size,λk hk hk'=>(hb.block k (dW hk h.kept.size)).trans (h.kept.block k hk hk'),λk cs T fr hk q=>let⟨cs',q1,q2⟩:=h.kept.shape k cs T fr hk q;⟨cs',(hb.block k (bq.1 q1).1).trans q1,q2⟩⟩,h.size,h.ext'.keep rfl rfl rfl keep (.Cq hb) (HB:=.more rfl rfl rfl rfl (λb i hi=>hi.imp id λhi=>hi.1) (λb hi=>.inl hi) λ_ _ h=>.inl h),?_,?_,?_,λi hi=>keep _ _ (h.tmps i hi),?_,?_,h.eY,h.cz,?_,h.er⟩;exact h.iX.keep rfl rfl (λo bs q=>⟨q,rfl,rfl⟩) (λ_ _ _ q=>q) (λ_ _ e=>e) hb.size (λo bs b q _ e=>hb.block b (h.gG o b e).1) (λo r e=>hb.block r (h.iX.row o r e).2.1) (λo r i e hi=>hi.elim id λhi=>absurd (h.iX.row o r e).2.1 oO) (λ_ _ _ _ e=>e) (λ_ _ t q _ e=>⟨t,q,e⟩);rintro b o (hi|⟨hi,_⟩);exact h.nN b o hi;exact .inr (ck h.kept.size hi);rintro b o (hi|⟨_,hi,_⟩);exact dW (h.fh b o hi) hb.size;omega;intro o cells ho;obtain⟨b,h1,h2⟩:=h.aI o cells ho;refine⟨b,h1,λi x hx=>?_⟩;obtain⟨c,h3,h4⟩:=h2 i x hx;exact⟨c,by rw[hcell b i (h.gG o b h1).1];omega,keep _ _ h4⟩;intro o b ho;obtain⟨h1,h2,h3⟩:=h.gG o b ho;refine⟨dW h1 hb.size,h2,λi=>⟨?_,by simp_all⟩⟩;grind;intro t b s e T ht;obtain⟨h1,h2,hty,h3⟩:=h.fQ t b s e T ht;refine⟨dW h1 hb.size,h2,by rw[hb.block b h1];omega,λi hi hi'=>?_⟩;grind
theorem bt.ext {E:Env}{G:bf}{S:aj}{a:Act}{w w':World}(h:bt E G S a w)(hb:Below w.heap.size w w'):bt E {G with bk:=λb o=>G.bk b o\/(w.heap.size<=b/\b<w'.heap.size)} S a w':=by have :=h.OE hb λ_ _=>True;simp_all
theorem Ct (bk:Nat->Nat->Prop)(w:World)(o:Obj):vV bk w (w.alloc o):=(fV.Cq ((Below.refl _ _).alloc (aA _) _)).pY _
theorem bt.drew {E:Env}{G:bf}{S:aj}{a:Act}{w:World}(h:bt E G S a w):bt E G S a {w with drawn:=w.drawn+1}:=by have keep:∀v x,aT G w v x->aT G {w with drawn:=w.drawn+1} v x:=λv x hv=>hv.keep (λ_ _ hi=>hi) (λ_ _ _ _ hc=>hc) (λ_ _ _ _ h=>h) (λ_ _ e=>e) (λ_ _ e=>e);refine⟨⟨h.kept.os,h.kept.tape,h.kept.output,h.kept.size,h.kept.block,h.kept.shape⟩,h.size,h.ext'.keep rfl rfl rfl keep (.refl _),h.iX.same rfl rfl rfl rfl (aA _) (λ_ _ _ _ _ _=>rfl) (λ_ _ _=>rfl),h.nN,h.fh,λi hi=>keep _ _ (h.tmps i hi),λo cells ho=>?_,h.gG,h.eY,h.cz,h.fQ,h.er⟩;obtain⟨b,h1,h2⟩:=h.aI o cells ho;exact⟨b,h1,λi x hx=>let⟨c,h3,h4⟩:=h2 i x hx;⟨c,h3,keep _ _ h4⟩⟩
def AV.cell:AV->Value|.bool b=>.bool b|.int k n=>.int k n|.str s=>.string ⟨s.toArray⟩|_=>undef
def tv (agg:Bool)(xs:List AV):Value:=match agg with|true=>.agg (xs.map AV.cell).toArray|false=>(xs.map AV.cell).headD undef
def gU (P:Program)(t:TypeId):Bool:=match P.underlying t with|some (.struct _)=>true|some (.array _ _)=>true|_=>false
theorem RQ {P:Program}{w:World}{t:TypeId}{d:TypeDesc}(h:P.underlying t=some d):(Go.isAgg t).run P w=.ok (gU P t) w:=by simp only[Go.isAgg,Sem.run_bind,run_underlying h,Result.andThen_ok,gU,h];cases d<;>rfl
theorem HD (k:IntKind):AE k k=true:=by simp[AE]
theorem ja {L:List gJ}{xs:List AV}(h:fC L xs=true):xs.length=L.length:=by
 induction L generalizing xs with
 |nil=>cases xs<;>simp_all[fC]
 |cons l L ih=>
  cases xs with
  |nil=>simp[fC]at h
  |cons x xs=>simp only[fC]at h;grind
theorem vq {L1 L2:List gJ}{xs:List AV}(h:fC (L1++L2) xs=true):∃x1 x2,xs=x1++x2/\fC L1 x1=true/\fC L2 x2=true:=by
 induction L1 generalizing xs with
 |nil=>exact⟨[],xs,rfl,rfl,h⟩
 |cons l L1 ih=>
  cases xs with
  |nil=>simp[fC]at h
  |cons x xs=>simp only[dm,fC]at h;split at h;rename_i hx;obtain⟨x1,x2,rfl,h1,h2⟩:=ih h;exact⟨x::x1,x2,rfl,by simp[fC,hx,h1],h2⟩;simp_all
theorem HE {L1:List gJ}{x1 y1 x2 y2:List AV}(hx:fC L1 x1=true)(hy:fC L1 y1=true):sameAs (x1++x2) (y1++y2)=(sameAs x1 y1&&sameAs x2 y2):=by
 induction L1 generalizing x1 y1 with
 |nil=>cases x1<;>cases y1<;>simp_all[fC,sameAs]
 |cons l L1 ih=>
  cases x1 with
  |nil=>simp[fC]at hx
  |cons x x1=>
   cases y1 with
   |nil=>simp[fC]at hy
   |cons y y1=>simp only[fC]at hx hy;split at hx;split at hy;simp only[dm,sameAs,ih hx hy,Bool.and_assoc];simp_all;simp_all
theorem acE {P:Program}{w:World}{d:Nat}{t:TypeId}{l:gJ}{x y:AV}(hu:(P.underlying t=some .bool/\l=.bool)\/(∃k,P.underlying t=some (.int k)/\l=.int k)\/(P.underlying t=some .string/\l=.str))(hx:l.fits x=true)(hy:l.fits y=true):(Op.equalIn (d+1) t x.cell y.cell).run P w=.ok (sg x y) w:=by rcases hu with⟨hu,rfl⟩|⟨k,hu,rfl⟩|⟨hu,rfl⟩;cases x<;>simp[gJ.fits]at hx;cases y<;>simp[gJ.fits]at hy;simp[AV.cell,Op.equalIn,run_underlying hu,sg];cases x<;>simp[gJ.fits]at hx;cases y<;>simp[gJ.fits]at hy;obtain rfl:=rN hx;obtain rfl:=rN hy;simp[AV.cell,Op.equalIn,run_underlying hu,sg,HD];cases x<;>simp[gJ.fits]at hx;cases y<;>simp[gJ.fits]at hy;rename_i a b;simp only[AV.cell,Op.equalIn,Sem.run_bind,run_underlying hu,Result.andThen_ok,Sem.run_pure,sg,beq_toListBytes];simp_all
theorem acF {A x B:List AV}{off n:Nat}(hA:A.length=off)(hx:x.length=n):((A++(x++B)).map AV.cell).toArray.extract off (off+n)=(x.map AV.cell).toArray:=by simp_all
theorem RR {P:Program}{w:World}{e:TypeId}{d:TypeDesc}{L:List gJ}{A x B:List AV}{off:Nat}(hu:P.underlying e=some d)(hagg:gU P e=true->P.cellsOf e=L.length/\∃i,P.info? e=some i)(h1:gU P e=false->L.length=1)(hA:A.length=off)(hx:fC L x=true):(part e ((A++(x++B)).map AV.cell).toArray off).run P w=.ok (tv (gU P e) x) w:=by
 have hl:=ja hx;simp only[part,Sem.run_bind,RQ hu,Result.andThen_ok];cases hq:gU P e with
 |true=>obtain⟨h2,i,hi⟩:=hagg hq;simp only[if_true,Sem.run_bind,run_sizeOf w hi,Result.andThen_ok,Sem.run_pure,h2,tv,<-hl,acF hA rfl]
 |false=>have h3:=h1 hq;match x,hl.trans h3 with|[a],_=>simp only[sD,if_false,tv];simp_all
theorem qM {P:Program}{d:Nat}{t:TypeId}{L:List gJ}(h:eZ P (d+1) t=some L):(∃l,L=[l]/\gU P t=false/\((P.underlying t=some .bool/\l=.bool)\/(∃k,P.underlying t=some (.int k)/\l=.int k)\/(P.underlying t=some .string/\l=.str)))\/(P.cellsOf t=L.length/\gU P t=true/\((∃fs,P.underlying t=some (.struct fs)/\P.stoodInHeld t=false/\oG P d 0 fs.toList=some L)\/∃n e l,P.underlying t=some (.array n e)/\eZ P d e=some l/\P.cellsOf e=l.length/\L=(List.replicate n l).flatten)):=by
 have Yt:∀{o:Option (List gJ)},acv P t o=some L->o=some L/\P.cellsOf t=L.length:=λ{o} h=>by unfold acv at h;split at h;grind;split at h;simp_all;simp_all
 unfold eZ at h;split at h;rename_i hu;obtain rfl:=au h;exact .inl ⟨_,rfl,by simp[gU,hu],.inl ⟨hu,rfl⟩⟩;rename_i k hu;obtain rfl:=au h;exact .inl ⟨_,rfl,by simp[gU,hu],.inr (.inl ⟨k,hu,rfl⟩)⟩;rename_i hu;obtain rfl:=au h;exact .inl ⟨_,rfl,by simp[gU,hu],.inr (.inr ⟨hu,rfl⟩)⟩;rename_i fs hu;split at h;grind;rename_i hs;obtain⟨h1,h2⟩:=Yt h;exact .inr ⟨h2,by simp[gU,hu],.inl ⟨fs,hu,hs,h1⟩⟩;rename_i n e hu;split at h;grind;rename_i l hl;split at h;rename_i hb;obtain⟨h1,h2⟩:=Yt h;obtain h1:=au h1;exact .inr ⟨h2,by simp[gU,hu],.inr ⟨n,e,l,hu,hl,aM hb,h1.symm⟩⟩;simp_all;simp_all
theorem wo {P:Program}{d:Nat}{t:TypeId}{L:List gJ}(h:eZ P d t=some L):∃q i,P.underlying t=some q/\P.info? t=some i:=by
 cases d with
 |zero=>simp[eZ]at h
 |succ d=>
  have :∃q,P.underlying t=some q:=by rcases qM h with⟨l,-,-,⟨h,-⟩|⟨k,h,-⟩|⟨h,-⟩⟩|⟨-,-,⟨fs,h,-⟩|⟨n,e,l,h,-⟩⟩;all_goals simp_all
  obtain⟨q,hq⟩:=this;obtain⟨i,hi⟩:=info_of_underlying hq;simp_all
theorem pJ {P:Program}{w:World}{d:Nat}{e:TypeId}{L:List gJ}{A x B:List AV}{off:Nat}(h:eZ P d e=some L)(hA:A.length=off)(hx:fC L x=true):(part e ((A++(x++B)).map AV.cell).toArray off).run P w=.ok (tv (gU P e) x) w:=by
 obtain⟨q,i,hq,hi⟩:=wo h;cases d with
 |zero=>simp[eZ]at h
 |succ d=>refine RR hq (λha=>⟨?_,i,hi⟩) (λha=>?_) hA hx;rcases qM h with⟨l,-,h2,-⟩|⟨h2,-,-⟩;simp_all;omega;rcases qM h with⟨l,rfl,-,-⟩|⟨-,h2,-⟩;rfl;simp_all
theorem Em {P:Program}:∀(d:Nat),(∀(t:TypeId)(L:List gJ)(D:Nat)(w:World)(xs ys:List AV),d<=D->eZ P d t=some L->fC L xs=true->fC L ys=true->(Op.equalIn D t (tv (gU P t) xs) (tv (gU P t) ys)).run P w=.ok (sameAs xs ys) w)/\(∀(fs:List Field)(off:Nat)(L:List gJ)(D:Nat)(w:World)(A A' xs ys:List AV),d<=D->oG P d off fs=some L->A.length=off->A'.length=off->fC L xs=true->fC L ys=true->(Op.eqFields D ((A++xs).map AV.cell).toArray ((A'++ys).map AV.cell).toArray fs).run P w=.ok (sameAs xs ys) w)
 |0=>⟨λt L D w xs ys _ h=>by simp[eZ]at h,λfs off L D w A A' xs ys _ h=>by simp[oG]at h⟩
 |d+1=>by
  obtain⟨ih1,ih2⟩:=Em d;constructor;intro t L D w xs ys hD h hx hy;obtain⟨D,rfl⟩:∃D',D=D'+1:=⟨D-1,oO⟩;rcases qM h with⟨l,rfl,ha,hu⟩|⟨hc,ha,⟨fs,hu,hs,hf⟩|⟨n,e,l,hu,hl,hce,rfl⟩⟩;rw[ha];match xs,ys,ja hx,ja hy with
   |[x],[y],_,_=>
    have hx':l.fits x=true:=by simp only[fC]at hx;split at hx;assumption;cases hx
    have hy':l.fits y=true:=by simp only[fC]at hy;split at hy;assumption;cases hy
    have :=acE (w:=w) (d:=D) hu hx' hy';simpa[tv,sameAs]using this
  rw[ha];have hfs:P.fieldsOf t=fs:=by simp[Program.fieldsOf,hu]
  simp only[tv];rw[run_equalIn_struct w D t _ _ (by rw[hfs];exact hu) hs,hfs];exact ih2 fs.toList 0 L D w [] [] xs ys oO hf rfl rfl hx hy;rw[ha];obtain⟨q,i,hq,hi⟩:=wo hl;simp only[tv];rw[run_equalIn_array w D _ _ hu hi];have key:∀(k j:Nat)(A A' xs ys:List AV),A.length=j*P.cellsOf e->A'.length=j*P.cellsOf e->fC (List.replicate k l).flatten xs=true->fC (List.replicate k l).flatten ys=true->(Op.eqItems D e (P.cellsOf e) ((A++xs).map AV.cell).toArray ((A'++ys).map AV.cell).toArray (List.range' j k)).run P w=.ok (sameAs xs ys) w:=by
   intro k;induction k with
   |zero=>intro j A A' xs ys _ _ hx hy;have e1:xs=[]:=bQ.1 (ja hx);have e2:ys=[]:=bQ.1 (ja hy);subst e1 e2;rfl
   |succ k ihk=>
    intro j A A' xs ys hA hA' hx hy;rw[List.replicate_succ,nP]at hx hy;obtain⟨x1,x2,rfl,hx1,hx2⟩:=vq hx;obtain⟨y1,y2,rfl,hy1,hy2⟩:=vq hy;rw[List.range'_succ];simp only[Op.eqItems,Sem.run_bind,pJ hl hA hx1,pJ hl hA' hy1,Result.andThen_ok,ih1 e l D w x1 y1 oO hl hx1 hy1,HE hx1 hy1];cases hs:sameAs x1 y1 with
    |false=>simp
    |true=>have :=ihk (j+1) (A++x1) (A'++y1) x2 y2 (by rw[ay,hA,ja hx1,bw,kn,hce]) (by rw[ay,hA',ja hy1,bw,kn,hce]) hx2 hy2;simp_all
  have :=key n 0 [] [] xs ys (by simp) (by simp) hx hy;rw[Cu];simp_all;intro fs off L D w A A' xs ys hD h hA hA' hx hy;cases fs with
  |nil=>simp only[oG,bN]at h;subst h;have e1:xs=[]:=bQ.1 (ja hx);have e2:ys=[]:=bQ.1 (ja hy);subst e1 e2;rfl
  |cons f fs=>
   simp only[oG]at h;split at h;rename_i hn ho;split at h;grind;rename_i l hl;split at h;grind;rename_i r hr;obtain rfl:=au h;obtain⟨x1,x2,rfl,hx1,hx2⟩:=vq hx;obtain⟨y1,y2,rfl,hy1,hy2⟩:=vq hy;have ho:=aM ho;have hn':f.name≠ "_" :=by simpa using hn
   simp only[Op.eqFields,hn',ne_eq,not_false_eq_true,if_true,Sem.run_bind,pJ hl (hA.trans ho.symm) hx1,pJ hl (hA'.trans ho.symm) hy1,Result.andThen_ok,ih1 f.type l D w x1 y1 oO hl hx1 hy1,HE hx1 hy1];cases hs:sameAs x1 y1 with
   |false=>simp
   |true=>have :=ih2 fs (off+l.length) r D w (A++x1) (A'++y1) x2 y2 oO hr (by rw[ay,hA,ja hx1]) (by rw[ay,hA',ja hy1]) hx2 hy2;simp_all
   simp_all
theorem gJ.rep {bk:Nat->Nat->Prop}{w:World}{v:Value}{l:gJ}{x:AV}(h:dA bk w v x)(hl:l.fits x=true):v=x.cell:=by cases h<;>cases l<;>first|rfl|(simp[gJ.fits]at hl)
theorem OF {bk:Nat->Nat->Prop}{w:World}:∀(L:List gJ)(cs:List Value)(xs:List AV),cs.length=xs.length->fC L xs=true->(∀(i:Nat)(c:Value)(x:AV),cs[i]?=some c->xs[i]?=some x->dA bk w c x)->cs=xs.map AV.cell
 |[],cs,xs,hl,hf,_=>by have e2:xs=[]:=bQ.1 (ja hf);simp_all
 |l::L,cs,[],hl,hf,hr=>by simp_all
 |l::L,[],x::xs,hl,hf,hr=>by simp_all
 |l::L,c::cs,x::xs,hl,hf,hr=>by simp only[fC]at hf;split at hf;rename_i hx;rw[bR,gJ.rep (hr 0 c x rfl rfl) hx,OF L cs xs (by simp_all) hf (λi c x h1 h2=>hr (i+1) c x (by simp_all) (by simp_all))];simp_all
theorem lZ {agg:Bool}{L:List gJ}{x:AV}(h:gL agg L x=true):fC L x.cells=true:=by cases agg<;>cases x<;>first|exact h|(simp[gL]at h)
theorem tC {bk:Nat->Nat->Prop}{w:World}{v:Value}{agg:Bool}{L:List gJ}{x:AV}(h:dA bk w v x)(hf:gL agg L x=true):v=tv agg x.cells:=by
 cases agg with
 |true=>
  cases h with
  |agg cs xs hl ho hr=>have :=OF L cs xs hl hf hr;rw[this];rfl
  |_=>simp[gL]at hf
 |false=>
  have hf':=lZ hf;cases h with
  |agg cs xs hl ho hr=>simp[gL]at hf
  |_=>
   all_goals
    simp only[AV.cells]at hf';match L,hf' with
     |[],hf'=>simp[fC]at hf'
     |[l],hf'=>
      simp only[fC]at hf';split at hf';rename_i hx;cases l<;>first|rfl|(simp[gJ.fits]at hx)
      cases hf'
     |_::_::_,hf'=>simp only[fC]at hf';split at hf'<;>cases hf'
theorem OG {agg:Bool}{L:List gJ}{x y:AV}(hx:gL agg L x=true)(hy:gL agg L y=true):nt x y=sameAs x.cells y.cells:=by
 cases agg with
 |true=>
  cases x<;>first|(simp[gL]at hx;done)|skip
  cases y<;>first|(simp[gL]at hy;done)|skip
  rfl
 |false=>
  cases x<;>first|(simp[gL]at hx;done)|skip
  all_goals cases y<;>first|(simp[gL]at hy;done)|simp[nt,AV.cells,sameAs]
theorem KI {x y:AV}(h:sg x y=true):x=y:=by cases x<;>cases y<;>simp only[sg]at h<;>first|(simp at h;subst h;rfl)|(simp only[br,beq_iff_eq]at h;obtain⟨h1,h2⟩:=h;rw[rN h1,h2])|cases h
theorem KJ:∀{xs ys:List AV},sameAs xs ys=true->xs=ys
 |[],[],_=>rfl
 |[],_::_,h=>by simp[sameAs]at h
 |_::_,[],h=>by simp[sameAs]at h
 |x::xs,y::ys,h=>by simp only[sameAs,br]at h;rw[KI h.1,KJ h.2]
theorem Yu {x y:AV}(h:nt x y=true):x=y:=by unfold nt at h;split at h;rw[KJ h];exact KI h
theorem RS {P:Program}{w:World}{d:Nat}{em:Bool}{t:TypeId}{l:gJ}{x:AV}(hu:(P.underlying t=some .bool/\l=.bool)\/(∃k,P.underlying t=some (.int k)/\l=.int k)\/(P.underlying t=some .string/\l=.str))(hx:l.fits x=true):(Instr.checkKey em (d+1) t x.cell).run P w=.ok () w:=by unfold Instr.checkKey;rcases hu with⟨hu,rfl⟩|⟨k,hu,rfl⟩|⟨hu,rfl⟩;all_goals cases x<;>simp[gJ.fits]at hx;simp[AV.cell,run_underlying hu]
def tD (em:Bool)(D:Nat)(xs:Array Value):List Field->Sem Unit|[]=>pure ()|f::fs=>if f.name≠ "_" then do let a<-part f.type xs f.offset;Instr.checkKey em D f.type a;tD em D xs fs else tD em D xs fs
def yz (em:Bool)(D:Nat)(e:TypeId)(c:Nat)(xs:Array Value):List Nat->Sem Unit|[]=>pure ()|i::is=>do let a<-part e xs (i*c);Instr.checkKey em D e a;yz em D e c xs is
theorem HF {P:Program}{w:World}{em:Bool}{D:Nat}{t:TypeId}{fs:Array Field}(xs:Array Value)(hu:P.underlying t=some (.struct fs)):(Instr.checkKey em (D+1) t (.agg xs)).run P w=(tD em D xs fs.toList).run P w:=by
 unfold Instr.checkKey;simp only[Sem.run_bind,run_underlying hu,Result.andThen_ok];rw[<-Array.forIn_toList];generalize fs.toList=fs;clear hu;induction fs generalizing w with
 |nil=>rfl
 |cons f fs ih=>
  simp only[List.forIn_cons,tD,Sem.run_bind,Sem.run_ite];split;generalize(part f.type xs f.offset).run P w=r1;cases r1 with
  |ok a w1=>
   simp only[Result.andThen_ok];generalize(Instr.checkKey em D f.type a).run P w1=r2;cases r2 with
   |ok b w2=>simp_all
   |halt x w2=>rfl
  |halt x w1=>rfl
  simp_all
theorem JU {P:Program}{w:World}{em:Bool}{D:Nat}{t e:TypeId}{n:Nat}{i:TypeInfo}(xs:Array Value)(hu:P.underlying t=some (.array n e))(hi:P.info? e=some i):(Instr.checkKey em (D+1) t (.agg xs)).run P w=(yz em D e (P.cellsOf e) xs (List.range n)).run P w:=by
 unfold Instr.checkKey;simp only[Sem.run_bind,run_underlying hu,Result.andThen_ok];simp only[Std.Legacy.Range.forIn_eq_forIn_range',Std.Legacy.Range.size,Nat.sub_zero,Nat.add_one_sub_one,Nat.div_one,Cu];generalize List.range' 0 n=is;clear hu;induction is generalizing w with
 |nil=>rfl
 |cons j is ih=>
  simp only[List.forIn_cons,yz,Sem.run_bind,run_sizeOf w hi,Result.andThen_ok];generalize(part e xs (j*P.cellsOf e)).run P w=r1;cases r1 with
  |ok a w1=>
   simp only[Result.andThen_ok];generalize(Instr.checkKey em D e a).run P w1=r2;cases r2 with
   |ok b w2=>simp_all
   |halt x w2=>rfl
  |halt x w1=>rfl
theorem sE {P:Program}{em:Bool}:∀(d:Nat),(∀(t:TypeId)(L:List gJ)(D:Nat)(w:World)(xs:List AV),d<=D->eZ P d t=some L->fC L xs=true->(Instr.checkKey em D t (tv (gU P t) xs)).run P w=.ok () w)/\(∀(fs:List Field)(off:Nat)(L:List gJ)(D:Nat)(w:World)(A xs:List AV),d<=D->oG P d off fs=some L->A.length=off->fC L xs=true->(tD em D ((A++xs).map AV.cell).toArray fs).run P w=.ok () w)
 |0=>⟨λt L D w xs _ h=>by simp[eZ]at h,λfs off L D w A xs _ h=>by simp[oG]at h⟩
 |d+1=>by
  obtain⟨ih1,ih2⟩:=sE (P:=P) (em:=em) d;constructor;intro t L D w xs hD h hx;obtain⟨D,rfl⟩:∃D',D=D'+1:=⟨D-1,oO⟩;rcases qM h with⟨l,rfl,ha,hu⟩|⟨hc,ha,⟨fs,hu,hs,hf⟩|⟨n,e,l,hu,hl,hce,rfl⟩⟩;rw[ha];match xs,ja hx with
   |[x],_=>
    have hx':l.fits x=true:=by simp only[fC]at hx;split at hx;omega;grind
    exact RS hu hx'
  rw[ha];simp only[tv];rw[HF _ hu];exact ih2 fs.toList 0 L D w [] xs oO hf rfl hx;rw[ha];obtain⟨q,i,hq,hi⟩:=wo hl;simp only[tv];rw[JU _ hu hi];have key:∀(k j:Nat)(A xs:List AV),A.length=j*P.cellsOf e->fC (List.replicate k l).flatten xs=true->(yz em D e (P.cellsOf e) ((A++xs).map AV.cell).toArray (List.range' j k)).run P w=.ok () w:=by
   intro k;induction k with
   |zero=>intro j A xs _ _;rfl
   |succ k ihk=>intro j A xs hA hx;rw[List.replicate_succ,nP]at hx;obtain⟨x1,x2,rfl,hx1,hx2⟩:=vq hx;rw[List.range'_succ];simp only[yz,Sem.run_bind,Result.andThen_ok,pJ hl hA hx1,ih1 e l D w x1 oO hl hx1];have :=ihk (j+1) (A++x1) x2 (by rw[ay,hA,ja hx1,bw,kn,hce]) hx2;simp_all
  have :=key n 0 [] xs (by simp) hx;rw[Cu];simp_all;intro fs off L D w A xs hD h hA hx;cases fs with
  |nil=>rfl
  |cons f fs=>
   simp only[oG]at h;split at h;rename_i hn ho;split at h;grind;rename_i l hl;split at h;grind;rename_i r hr;obtain rfl:=au h;obtain⟨x1,x2,rfl,hx1,hx2⟩:=vq hx;have ho:=aM ho;have hn':f.name≠ "_" :=by simpa using hn
   have :=ih2 fs (off+l.length) r D w (A++x1) x2 oO hr (by rw[ay,hA,ja hx1]) hx2;rw[bu]at this;simp only[tD,hn',ne_eq,not_false_eq_true,if_true,Sem.run_bind,pJ hl (hA.trans ho.symm) hx1,Result.andThen_ok,ih1 f.type l D w x1 oO hl hx1];omega;simp_all
def iy (k:AV):List AV->Option Nat|[]=>none|x::xs=>match nt k x with|true=>some 0|false=>(iy k xs).map (·+1)
def sF (agg:Bool)(L:List gJ)(es:List MapEntry)(ks:List AV):Prop:=es.length=ks.length/\∀(i:Nat)(e:MapEntry)(x:AV),es[i]?=some e->ks[i]?=some x->e.key=tv agg x.cells/\gL agg L x=true
theorem sF.tail {agg:Bool}{L:List gJ}{e:MapEntry}{es:List MapEntry}{x:AV}{ks:List AV}(h:sF agg L (e::es) (x::ks)):e.key=tv agg x.cells/\gL agg L x=true/\sF agg L es ks:=⟨(h.2 0 e x rfl rfl).1,(h.2 0 e x rfl rfl).2,by simpa using h.1,λi e' x' h1 h2=>h.2 (i+1) e' x' (by simp_all) (by simp_all)⟩
def found (es:List MapEntry)(i:Nat)(o:Option Nat):Option (Nat×Value):=o.bind λj=>(es[j]?).map λe=>(i+j,e.val)
theorem HG (e:MapEntry)(es:List MapEntry)(i:Nat)(o:Option Nat):found (e::es) i (o.map (·+1))=found es (i+1) o:=by
 cases o with
 |none=>rfl
 |some j=>simp[found,fH,nQ 1]
theorem yB {P:Program}{w:World}{t:TypeId}{d:Nat}{L:List gJ}(hd:d<=10000)(hL:eZ P d t=some L){k:AV}(hk:gL (gU P t) L k=true):∀(es:List MapEntry)(ks:List AV)(i:Nat),sF (gU P t) L es ks->(Instr.findAsking t (tv (gU P t) k.cells) es i).run P w=.ok (found es i (iy k ks)) w
 |[],ks,i,h=>by have :ks=[]:=bQ.1 h.1.symm;subst this;rfl
 |e::es,[],i,h=>by have :=h.1;simp_all
 |e::es,x::ks,i,h=>by
  obtain⟨h1,h2,h3⟩:=h.tail;have heq:=(Em d).1 t L 10000 w k.cells x.cells hd hL (lZ hk) (lZ h2);have heq':(Op.equal t (tv (gU P t) k.cells) e.key).run P w=.ok (nt k x) w:=by rw[h1,OG hk h2];exact heq
  simp only[Instr.findAsking,Sem.run_bind,heq',Result.andThen_ok,iy];cases hs:nt k x with
  |true=>rfl
  |false=>have :=yB (w:=w) hd hL hk es ks (i+1) h3;simp only[sD,if_false,this,HG]
theorem OH {l:gJ}{k:AV}(h:gL false [l] k=true):l.fits k=true:=by
 cases k<;>first|(simp[gL]at h;done)|skip
 all_goals have :=lZ h;simp only[AV.cells,fC]at this;split at this;assumption;cases this
theorem KL {P:Program}{t:TypeId}{q:TypeDesc}{l:gJ}(hu:P.underlying t=some q)(ha:gU P t=false)(hl:(P.underlying t=some .bool/\l=.bool)\/(∃k,P.underlying t=some (.int k)/\l=.int k)\/(P.underlying t=some .string/\l=.str)){k:AV}(hk:gL false [l] k=true):∀(es:List MapEntry)(ks:List AV)(i:Nat),sF false [l] es ks->Instr.findNow q (tv false k.cells) es i=some (found es i (iy k ks))
 |[],ks,i,h=>by have :ks=[]:=bQ.1 h.1.symm;subst this;rfl
 |e::es,[],i,h=>by have :=h.1;simp_all
 |e::es,x::ks,i,h=>by
  obtain⟨h1,h2,h3⟩:=h.tail;have hs:Instr.sameNow q (tv false k.cells) e.key=some (nt k x):=by
   rw[h1];have f1:=OH hk;have f2:=OH h2;rcases hl with⟨hl,rfl⟩|⟨kk,hl,rfl⟩|⟨hl,rfl⟩;all_goals
    rw[hu]at hl;obtain rfl:=au hl;cases k<;>first|(simp[gJ.fits]at f1;done)|skip
    cases x<;>first|(simp[gJ.fits]at f2;done)|skip
   rfl;simp only[gJ.fits]at f1 f2;obtain rfl:=rN f1;obtain rfl:=rN f2;simp[tv,AV.cells,AV.cell,Instr.sameNow,nt,sg,HD];simp only[tv,AV.cells,AV.cell,Instr.sameNow,nt,sg,bR,fW,List.headD_cons,beq_toListBytes];simp_all
  simp only[Instr.findNow,hs,iy];cases hq:nt k x with
  |true=>rfl
  |false=>have :=KL hu ha hl hk es ks (i+1) h3;simp only[this,HG]
theorem wq {P:Program}{w:World}{t:TypeId}{d:Nat}{L:List gJ}(hd:d<=10000)(hL:eZ P d t=some L){k:AV}(hk:gL (gU P t) L k=true){es:List MapEntry}{ks:List AV}(h:sF (gU P t) L es ks):(Instr.findKey t (tv (gU P t) k.cells) es).run P w=.ok (found es 0 (iy k ks)) w:=by
 obtain⟨q,i,hq,hi⟩:=wo hL;cases d with
 |zero=>simp[eZ]at hL
 |succ d=>
  rcases qM hL with⟨l,rfl,ha,hu⟩|⟨hc,ha,hu⟩;rw[ha]at hk h⊢;simp only[Instr.findKey,Sem.run_bind,run_underlying hq,Result.andThen_ok,KL hq ha hu hk es ks 0 h,Sem.run_pure];have aml:=yB (w:=w) hd hL hk es ks 0 h;have ajK:Instr.findNow q (tv (gU P t) k.cells) es 0=(match es with|[]=>some none|_::_=>none):=by
   cases es with
   |nil=>rfl
   |cons e es=>rcases hu with⟨fs,hu,-⟩|⟨n,e',l,hu,-⟩;all_goals rw[hq]at hu;obtain rfl:=au hu;rfl
  simp only[Instr.findKey,Sem.run_bind,run_underlying hq,Result.andThen_ok,ajK];cases es with
  |nil=>have :ks=[]:=bQ.1 h.1.symm;subst this;rfl
  |cons e es=>omega
theorem AI {l:gJ}{x:AV}(h:l.fits x=true)(n:Nat):Instr.sameBits n x.cell x.cell=true:=by cases l<;>cases x<;>simp[gJ.fits]at h<;>cases n<;>simp[AV.cell,Instr.sameBits,beq_toListBytes]
theorem Cv {p:Value->Value->Bool}:∀(xs:List Value),(∀x,x∈xs->p x x=true)->((xs.zip xs).all λ(a,b)=>p a b)=true|[],_=>rfl|x::xs,h=>by simp only[List.zip_cons_cons,wu,h x (by simp),iI];exact Cv xs λy hy=>h y (by grind)
theorem OI {agg:Bool}{L:List gJ}{x:AV}(h:gL agg L x=true)(n:Nat):Instr.sameBits (n+1) (tv agg x.cells) (tv agg x.cells)=true:=by
 have hc:=lZ h;cases agg with
 |true=>
  have hall:∀{L:List gJ}{xs:List AV},fC L xs=true->∀y∈xs,∃l:gJ,l.fits y=true:=by
   intro L;induction L with
   |nil=>intro xs h y hy;have :=bQ.1 (ja h);simp_all
   |cons l L ih=>
    intro xs h y hy;cases xs with
    |nil=>simp_all
    |cons x xs=>simp only[fC]at h;grind
  simp only[tv,Instr.sameBits,beq_self_eq_true,iI];refine Cv (p:=Instr.sameBits n) _ λy hy=>?_;obtain⟨z,hz,rfl⟩:=aC.1 (by simpa using hy);obtain⟨l,hl⟩:=hall hc z hz;exact AI hl n
 |false=>
  cases x<;>first|(simp[gL]at h;done)|skip
  all_goals
   simp only[AV.cells]at hc;match L,hc with
    |[],hc=>simp[fC]at hc
    |[l],hc=>simp only[fC]at hc;split at hc;rename_i hx;exact AI hx _;cases hc
    |_::_::_,hc=>simp only[fC]at hc;split at hc<;>cases hc
theorem Cw {P:Program}{w:World}{agg:Bool}{L:List gJ}{x:AV}(h:gL agg L x=true):(Instr.keyThatStays (tv agg x.cells) (tv agg x.cells)).run P w=.ok (tv agg x.cells) w:=by unfold Instr.keyThatStays;rw[OI h];rfl
theorem RT {l:List (TypeId×jF)}{t:TypeId}{i:jF}(h:bO l t=some i):(t,i)∈l:=by
 induction l with
 |nil=>cases h
 |cons p l ih=>obtain⟨u,j⟩:=p;simp only[bO]at h;split at h;simp_all;simp_all
theorem Ctx.ok (C:Ctx){t:TypeId}{i:jF}(h:bO C.iZ t=some i):fN C.P t i:=C.aeT t i (RT h)
theorem fN.info' {P:Program}{t:TypeId}{i:jF}(h:fN P t i):∃inf z,P.info? t=some inf/\inf.size=i.size/\inf.bytes=i.bytes/\inf.zero=some z/\z.cells.toList=i.zero:=by have :=h.info;simp_all
theorem fN.yC {P:Program}{t:TypeId}{i:jF}(h:fN P t i):∃d,P.underlying t=some d/\shapeOf d=i.shape:=by have :=h.und;simp_all
theorem fN.sizeOf {P:Program}{t:TypeId}{i:jF}(h:fN P t i)(w:World):(Go.sizeOf t).run P w=.ok i.size w:=by obtain⟨inf,z,h1,h2,-⟩:=h.info';simp[Go.sizeOf,run_typeInfo w h1,h2]
theorem fN.isAgg {P:Program}{t:TypeId}{i:jF}(h:fN P t i)(w:World):(Go.isAgg t).run P w=.ok i.shape.isAgg w:=by obtain⟨d,h1,h2⟩:=h.yC;simp only[Go.isAgg,Sem.run_bind,run_underlying h1,Result.andThen_ok];rw[<-h2];cases d<;>rfl
theorem fN.gU {P:Program}{t:TypeId}{i:jF}(h:fN P t i):Qv.gU P t=i.shape.isAgg:=by obtain⟨d,h1,h2⟩:=h.yC;rw[<-h2];unfold Qv.gU;rw[h1];cases d<;>rfl
theorem fN.slice {P:Program}{t e:TypeId}{a b:Nat}{z:List Value}(h:fN P t ⟨a,b,.slice e,z⟩):P.underlying t=some (.slice e):=by obtain⟨d,h1,h2⟩:=h.yC;cases d<;>simp[shapeOf]at h2;simp_all
theorem fN.array {P:Program}{t e:TypeId}{a b n:Nat}{z:List Value}(h:fN P t ⟨a,b,.array n e,z⟩):P.underlying t=some (.array n e):=by obtain⟨d,h1,h2⟩:=h.yC;cases d<;>simp[shapeOf]at h2;simp_all
theorem fN.str {P:Program}{t:TypeId}{a b:Nat}{z:List Value}(h:fN P t ⟨a,b,.str,z⟩):P.underlying t=some .string:=by obtain⟨d,h1,h2⟩:=h.yC;cases d<;>simp[shapeOf]at h2;omega
theorem fN.bool {P:Program}{t:TypeId}{a b:Nat}{z:List Value}(h:fN P t ⟨a,b,.bool,z⟩):P.underlying t=some .bool:=by obtain⟨d,h1,h2⟩:=h.yC;cases d<;>simp[shapeOf]at h2;omega
theorem fN.int {P:Program}{t:TypeId}{a b:Nat}{k:IntKind}{z:List Value}(h:fN P t ⟨a,b,.int k,z⟩):P.underlying t=some (.int k):=by obtain⟨d,h1,h2⟩:=h.yC;cases d<;>simp[shapeOf]at h2;simp_all
theorem fN.struct {P:Program}{t:TypeId}{a b:Nat}{fs:List (Nat×TypeId)}{z:List Value}(h:fN P t ⟨a,b,.struct fs,z⟩):∃gs,P.underlying t=some (.struct gs)/\fs=gs.toList.map λf=>(f.offset,f.type):=by obtain⟨d,h1,h2⟩:=h.yC;cases d<;>simp[shapeOf]at h2;simp_all
theorem fN.ptr {P:Program}{t e:TypeId}{a b:Nat}{z:List Value}(h:fN P t ⟨a,b,.ptr e,z⟩):P.underlying t=some (.pointer e):=by obtain⟨d,h1,h2⟩:=h.yC;cases d<;>simp[shapeOf]at h2;simp_all
theorem En {P:Program}{w:World}{t e:TypeId}(d:Nat)(p:Option Addr)(h:P.underlying t=some (.pointer e)):(Op.equalIn (d+1) t (.pointer p) (.pointer none)).run P w=.ok p.isNone w:=by cases p<;>simp[Op.equalIn,run_underlying h]
theorem pZ {P:Program}{w:World}{t e:TypeId}(p:Option Addr)(h:P.underlying t=some (.pointer e)):(Op.equal t (.pointer p) (.pointer none)).run P w=.ok p.isNone w:=En 9999 p h
theorem Cy {P:Program}{w:World}{t e:TypeId}{i:jF}(d:Nat)(p:Addr)(h:P.underlying t=some (.pointer e))(hi:fN P e i):(Op.equalIn (d+1) t (.pointer (some p)) (.pointer (some p))).run P w=.ok true w:=by have hso:=hi.sizeOf w;simp only[Op.equalIn,Sem.run_bind,run_underlying h,Result.andThen_ok,hso,sameAddr];simp_all
theorem xM {P:Program}{w:World}{t e:TypeId}{i:jF}(p:Addr)(h:P.underlying t=some (.pointer e))(hi:fN P e i):(Op.equal t (.pointer (some p)) (.pointer (some p))).run P w=.ok true w:=Cy 9999 p h hi
theorem nA {α:Type}(n:Nat)(xs:List α):gh n xs=xs.drop n:=by
 induction n generalizing xs with
 |zero=>rfl
 |succ n ih=>cases xs<;>simp[gh,ih]
theorem mo {α:Type}{n:Nat}{xs:List α}{y:α}{ys:List α}(h:gh n xs=y::ys):xs[n]?=some y:=by rw[nA]at h;have :=bg (·[0]?) h;grind
theorem wv {n:Nat}{xs cs:List FV}(h:takeN n xs=some cs):cs=xs.take n/\n<=xs.length:=by
 induction n generalizing xs cs with
 |zero=>simp[takeN]at h;grind
 |succ n ih=>
  cases xs with
  |nil=>simp[takeN]at h
  |cons x xs=>simp only[takeN]at h;grind
theorem Bj {n:Nat}{xs cs:List AV}(h:Fi n xs=some cs):cs=xs.take n/\n<=xs.length:=by
 induction n generalizing xs cs with
 |zero=>simp[Fi]at h;grind
 |succ n ih=>
  cases xs with
  |nil=>simp[Fi]at h
  |cons x xs=>simp only[Fi]at h;grind
theorem fN.field {P:Program}{s:TypeId}{a b f:Nat}{fs:List (Nat×TypeId)}{z:List Value}{o:Nat}{t:TypeId}{r:List (Nat×TypeId)}(h:fN P s ⟨a,b,.struct fs,z⟩)(hd:gh f fs=(o,t)::r):∃(gs:Array Field) (g:Field),P.underlying s=some (.struct gs)/\gs[f]?=some g/\g.offset=o/\g.type=t:=by obtain⟨gs,h1,h2⟩:=h.struct;have h3:=mo hd;simp_all
section
variable {bk:Nat->Nat->Prop}{w:World}{v:Value}{G:bf}
theorem dA.fo {k:IntKind}{n:Int}(h:dA bk w v (.int k n)):v=.int k n:=by cases h;rfl
theorem dA.nB {b:Bool}(h:dA bk w v (.bool b)):v=.bool b:=by cases h;rfl
theorem dA.jP {s:List UInt8}(h:dA bk w v (.str s)):v=.string ⟨s.toArray⟩:=by cases h;rfl
theorem aT.fo {k:IntKind}{n:Int}(h:aT G w v (.p (.int k n))):v=.int k n:=by
 cases h with
 |p _ _ h=>exact h.fo
theorem aT.HH (h:aT G w v (.p .yg)):v=.pointer none:=by
 cases h with
 |p _ _ h=>cases h;rfl
theorem aT.nB {b:Bool}(h:aT G w v (.p (.bool b))):v=.bool b:=by
 cases h with
 |p _ _ h=>exact h.nB
theorem aT.jP {s:List UInt8}(h:aT G w v (.p (.str s))):v=.string ⟨s.toArray⟩:=by
 cases h with
 |p _ _ h=>exact h.jP
theorem aT.plain {x:AV}(h:aT G w v (.p x)):dA G.bk w v x:=by
 cases h with
 |p _ _ h=>omega
theorem aT.VG (h:aT G w v (.p (.eW []))):v=undef:=by
 cases h with
 |p _ _ h=>
  cases h with
  |eW cs xs hl h=>have :cs=[]:=bQ.1 oO;subst this;rfl
theorem aT.oU {o off:Nat}(h:aT G w v (.ptr o off)):∃b,v=.pointer (some ⟨b,off,none⟩)/\G.loc o=some b:=by
 cases h with
 |ptr _ _ b h=>simp_all
theorem aT.GF {o bM:Nat}{T:TypeId}(h:aT G w v (.gd o T bM)):∃n c b,v=.slice (some ⟨b,0,none⟩) n c/\G.loc o=some b/\G.tail o=some (b,n*bM,c*bM,T)/\n<=c/\0<bM:=by
 cases h with
 |gd _ _ _ n c b h1 h2 h3 h4=>grind
theorem dA.mq {xs:List (List AV)}(h:dA bk w v (.sl xs)):∃a c,v=.slice a xs.length c/\xs.length<=c/\(xs≠[]->∃(b off bM:Nat) (cell:Nat->Nat->Value),a=some ⟨b,off,none⟩/\(∀(i:Nat)(ys:List AV),xs[i]?=some ys->ys.length=bM)/\(∀(i:Nat)(ys:List AV)(j:Nat)(y:AV),xs[i]?=some ys->ys[j]?=some y->y.one=true/\w.cell? ⟨b,off+i*bM+j,none⟩=some (cell i j)/\bk b (off+i*bM+j)/\dA bk w (cell i j) y)):=by
 cases h with
 |TZ a c=>simp_all
 |sl b off c bM xs cell h1 h2 h3 h4 h5 h6=>exact⟨_,c,rfl,h6,λ_=>⟨b,off,bM,cell,rfl,h1,λi ys j y a b=>⟨h2 i ys j y a b,h3 i ys j y a b,h4 i ys j y a b,h5 i ys j y a b⟩⟩⟩
theorem aT.elems {x:FV}{xs:List (List AV)}(hx:x.elems=some xs)(h:aT G w v x):dA G.bk w v (.sl xs):=by
 cases x with
 |p y=>cases y<;>simp[FV.elems]at hx;subst hx;exact h.plain
 |fM t T e ys=>simp only[FV.elems,bN]at hx;subst hx;exact h.eG rfl
 |full ys=>simp only[FV.elems,bN]at hx;subst hx;exact h.eG rfl
 |_=>simp[FV.elems]at hx
theorem dA.Cz {xs:List AV}(h:dA bk w v (.imp xs)):∃b off,v=.pointer (some ⟨b,off,none⟩)/\∀(j:Nat)(y:AV),xs[j]?=some y->∃c,y.one=true/\w.cell? ⟨b,off+j,none⟩=some c/\bk b (off+j)/\dA bk w c y:=by
 cases h with
 |imp b off xs cell h2 h3 h4 h5=>grind
theorem dA.RU {xs:List AV}{b off:Nat}(h:∀(j:Nat)(y:AV),xs[j]?=some y->∃c,y.one=true/\w.cell? ⟨b,off+j,none⟩=some c/\bk b (off+j)/\dA bk w c y):dA bk w (.pointer (some ⟨b,off,none⟩)) (.imp xs):=by refine .imp b off xs (λj=>(w.cell? ⟨b,off+j,none⟩).getD undef) (λj y hy=>(h j y hy).choose_spec.1) (λj y hy=>?_) (λj y hy=>(h j y hy).choose_spec.2.2.1) (λj y hy=>?_);grind;grind
theorem dA.OJ {xs:List (List AV)}{b off bM c:Nat}(hc:xs.length<=c)(h1:∀(i:Nat)(ys:List AV),xs[i]?=some ys->ys.length=bM)(h:∀(i:Nat)(ys:List AV)(j:Nat)(y:AV),xs[i]?=some ys->ys[j]?=some y->∃u,y.one=true/\w.cell? ⟨b,off+i*bM+j,none⟩=some u/\bk b (off+i*bM+j)/\dA bk w u y):dA bk w (.slice (some ⟨b,off,none⟩) xs.length c) (.sl xs):=by refine .sl b off c bM xs (λi j=>(w.cell? ⟨b,off+i*bM+j,none⟩).getD undef) h1 (λi ys j y a a'=>(h i ys j y a a').choose_spec.1) (λi ys j y a a'=>?_) (λi ys j y a a'=>(h i ys j y a a').choose_spec.2.2.1) (λi ys j y a a'=>?_) hc;grind;grind
theorem dA.VH {x:AV}(h:dA bk w v x)(hx:x.one=true):v.oneCell'=true:=by cases h<;>first|rfl|(simp[AV.one]at hx)
theorem aT.VH {x:FV}(h:aT G w v x)(hx:x.one=true):v.oneCell'=true:=by
 cases h with
 |p v x h=>exact h.VH (by cases x<;>simp_all[FV.one,AV.one])
 |_=>first|rfl|(simp[FV.one]at hx)
end
section
variable {E:Env}{G:bf}{S:aj}{a:Act}{w:World}{o:Oper}{K:FV->Prop}
def Yields (E:Env)(G:bf)(a:Act)(w:World)(o:Oper)(K:FV->Prop):Prop:=∃v x w',(execOp a.eval o).run E.C.P w=.ok (.value v) w'/\K x/\Below w.heap.size w w'/\aT {G with bk:=λb o=>G.bk b o\/(w.heap.size<=b/\b<w'.heap.size)} w' v x
theorem Yields.same {v:Value}{x:FV}(h:(execOp a.eval o).run E.C.P w=.ok (.value v) w)(hk:K x)(hr:aT G w v x):Yields E G a w o K:=⟨v,x,w,h,hk,Below.refl _ _,hr.keep (λ_ _ h=>.inl h) (λ_ _ _ _ h=>h) (.refl _ _) (λ_ _ h=>h) (λ_ _ h=>h)⟩
theorem qN {op:BinOp}{t yt:TypeId}{x y:Operand}{p q:Option Addr}{b:Bool}(ho:o.op=.binOp op t x y yt)(ex:a.eval x=.pointer p)(ey:a.eval y=.pointer q)(hq:(Op.equal t (.pointer p) (.pointer q)).run E.C.P w=.ok b w)(h:(op=.eql/\K (.p (.bool b)))\/(op=.neq/\K (.p (.bool (!b))))):Yields E G a w o K:=by
 have hg:∀op,(eqGuard op t x y (.pointer p) (.pointer q)).run E.C.P w=.ok () w:=by intro op;unfold eqGuard;split<;>simp
 rcases h with⟨rfl,h⟩|⟨rfl,h⟩;exact Yields.same (by simp[execOp,ho,ex,ey,hg,binOp,hq]) h (.p _ _ (.bool _));exact Yields.same (by simp[execOp,ho,ex,ey,hg,binOp,hq]) h (.p _ _ (.bool _))
theorem fN.iface {P:Program}{t:TypeId}{a b:Nat}{z:List Value}(h:fN P t ⟨a,b,.iface,z⟩):∃ms,P.underlying t=some (.interface ms):=by obtain⟨d,h1,h2⟩:=h.yC;cases d<;>simp[shapeOf]at h2;simp_all
theorem JV {P:Program}{w:World}{t:TypeId}{ms:Array (String×TypeId)}(d:Nat)(v:Value)(b:Bool)(h:P.underlying t=some (.interface ms))(hv:v=.nilIface/\b=true\/(∃u x,v=.iface u x)/\b=false):(Op.equalIn (d+1) t v .nilIface).run P w=.ok b w:=by rcases hv with⟨rfl,rfl⟩|⟨⟨u,x,rfl⟩,rfl⟩<;>simp[Op.equalIn,run_underlying h]
theorem OL {P:Program}{w:World}{t:TypeId}{ms:Array (String×TypeId)}(v:Value)(b:Bool)(h:P.underlying t=some (.interface ms))(hv:v=.nilIface/\b=true\/(∃u x,v=.iface u x)/\b=false):(Op.equal t v .nilIface).run P w=.ok b w:=JV 9999 v b h hv
theorem OM (hs:bt E G S a w){op:BinOp}{t yt:TypeId}{x y:Operand}(ho:o.op=.binOp op t x y yt)(hy:Mk y=true)(h:Be E.C t op (S.val x) K):Yields E G a w o K:=by
 have hx:=aT.val hs x;generalize S.val x=vx at h hx;generalize hex:a.eval x=v at hx;unfold Mk at hy;split at hy;have ey:a.eval (.const .nilIface)=.nilIface:=rfl;have key:∀(b:Bool),(v=.nilIface/\b=true\/(∃u x,v=.iface u x)/\b=false)->(∃ms,E.C.P.underlying t=some (.interface ms))->((op=.eql/\K (.p (.bool b)))\/(op=.neq/\K (.p (.bool (!b)))))->Yields E G a w o K:=λb hv ⟨ms,hm⟩ hk=>by
  have hq:(Op.equal t v .nilIface).run E.C.P w=.ok b w:=OL v b hm hv;have hg:(eqGuard op t x (.const .nilIface) v .nilIface).run E.C.P w=.ok () w:=by rcases hv with⟨rfl,rfl⟩|⟨⟨u,z,rfl⟩,rfl⟩;unfold eqGuard;simp_all;unfold eqGuard;simp_all
  rcases hv with⟨rfl,rfl⟩|⟨⟨u,z,rfl⟩,rfl⟩;rcases hk with⟨rfl,hk⟩|⟨rfl,hk⟩;exact Yields.same (by simp[execOp,ho,hex,ey,hg,binOp,hq]) hk (.p _ _ (.bool _));exact Yields.same (by simp[execOp,ho,hex,ey,hg,binOp,hq]) hk (.p _ _ (.bool _));rcases hk with⟨rfl,hk⟩|⟨rfl,hk⟩;exact Yields.same (by simp[execOp,ho,hex,ey,hg,binOp,hq]) hk (.p _ _ (.bool _));exact Yields.same (by simp[execOp,ho,hex,ey,hg,binOp,hq]) hk (.p _ _ (.bool _))
 unfold Be at h;split at h;rename_i ht;have hm:=(E.C.ok ht).iface;have ajf:aT G w v (.p .tH)->v=.nilIface:=λh=>by
  cases h with
  |p _ _ h=>cases h;rfl
 have ajL:∀{u:TypeId}{z:AV},aT G w v (.p (.iface u z))->∃u x,v=.iface u x:=λh=>by
  cases h with
  |p _ _ h=>cases h;simp_all
 grind;simp_all;simp_all
theorem ON {P:Program}{w:World}{t e:TypeId}(a:Option Addr)(n c:Nat)(h:P.underlying t=some (.slice e)):(Op.equal t (.slice a n c) (.slice none 0 0)).run P w=.ok a.isNone w:=by
 have :∀d,(Op.equalIn (d+1) t (.slice a n c) (.slice none 0 0)).run P w=.ok a.isNone w:=λd=>by cases a<;>simp[Op.equalIn,run_underlying h]
 exact this 9999
theorem OO (hs:bt E G S a w){op:BinOp}{t yt:TypeId}{x y:Operand}(ho:o.op=.binOp op t x y yt)(hy:Ml y=true)(h:Mm E.C t op (S.val x) K):Yields E G a w o K:=by
 have hx:=aT.val hs x;generalize S.val x=vx at h hx;generalize hex:a.eval x=v at hx;unfold Ml at hy;split at hy;have ey:a.eval (.const (.slice none 0 0))=.slice none 0 0:=rfl;have key:∀(ad:Option Addr)(n c:Nat),v=.slice ad n c->(∃e,E.C.P.underlying t=some (.slice e))->((op=.eql/\K (.p (.bool ad.isNone)))\/(op=.neq/\K (.p (.bool (!ad.isNone)))))->Yields E G a w o K:=λad n c hv ⟨e,hm⟩ hk=>by
  subst hv;have hq:(Op.equal t (.slice ad n c) (.slice none 0 0)).run E.C.P w=.ok ad.isNone w:=ON ad n c hm;have hg:(eqGuard op t x (.const (.slice none 0 0)) (.slice ad n c) (.slice none 0 0)).run E.C.P w=.ok () w:=by unfold eqGuard;split<;>simp
  rcases hk with⟨rfl,hk⟩|⟨rfl,hk⟩;exact Yields.same (by simp[execOp,ho,hex,ey,hg,binOp,hq]) hk (.p _ _ (.bool _));exact Yields.same (by simp[execOp,ho,hex,ey,hg,binOp,hq]) hk (.p _ _ (.bool _))
 unfold Mm at h;split at h;rename_i ht;have hm:=(E.C.ok ht).slice;split at h;obtain⟨n,c,b,rfl,-⟩:=hx.GF;grind;split at h;simp_all;rename_i xs hxs;obtain⟨ad,c,rfl,-,hne⟩:=(hx.elems hxs).mq;have hsome:xs≠[]->ad.isNone=false:=λhn=>by grind
 split at h;exact key _ _ _ rfl ⟨_,hm⟩ (.inl ⟨rfl,h.out _ hsome⟩);exact key _ _ _ rfl ⟨_,hm⟩ (.inr ⟨rfl,h.out _ λhn=>by simp_all⟩);simp_all;simp_all;simp_all
theorem OP (hs:bt E G S a w){op:BinOp}{t yt:TypeId}{x y:Operand}{vx vy:FV}(ho:o.op=.binOp op t x y yt)(hx:aT G w (a.eval x) vx)(hy:aT G w (a.eval y) vy)(h:Ef E.C t op vx vy K):Yields E G a w o K:=by
 unfold Ef at h;split at h;simp_all;rename_i i hi;have hok:=E.C.ok hi;split at h;rename_i xs ys hagg hxs hys;obtain⟨L,hL,hg,f1,f2,h⟩:=h;have ha:gU E.C.P t=true:=by rw[hok.gU,hagg]
 have e1:a.eval x=tv true xs:=tC (hx.eG hxs) (agg:=true) (L:=L) f1;have e2:a.eval y=tv true ys:=tC (hy.eG hys) (agg:=true) (L:=L) f2;have hq:(Op.equal t (tv true xs) (tv true ys)).run E.C.P w=.ok (sameAs xs ys) w:=by have :=(Em (P:=E.C.P) 40).1 t L Op.maxDepth w xs ys dD hL f1 f2;rw[ha]at this;exact this
 have hg':(eqGuard op t x y (tv true xs) (tv true ys)).run E.C.P w=.ok () w:=by unfold eqGuard;simp only[tv];split<;>simp[hg]
 simp only[tv]at e1 e2 hq hg';cases op<;>simp only at h<;>first|exact h.elim|(exact Yields.same (by simp[execOp,ho,e1,e2,hg',binOp,hq];rfl) (h.out _ rfl) (.p _ _ (.bool _)))|(exact Yields.same (by simp[execOp,ho,e1,e2,hg',binOp,hq]) (h.out _ rfl) (.p _ _ (.bool _)))
 simp_all
theorem afN (k:IntKind)(x y:Int):Op.intBits .and k x y=pure (.int k (yb .and k x y)):=rfl
theorem ahr (k:IntKind)(x y:Int):Op.intBits .or k x y=pure (.int k (yb .or k x y)):=rfl
theorem Yv (k:IntKind)(x y:Int):Op.intBits .xor k x y=pure (.int k (yb .xor k x y)):=rfl
theorem VI (k:IntKind)(x y:Int):Op.intBits .andNot k x y=pure (.int k (yb .andNot k x y)):=rfl
theorem RV (hs:bt E G S a w){op:BinOp}{t yt:TypeId}{x y:Operand}(ho:o.op=.binOp op t x y yt)(h:Hj E.C t op (S.val x) (S.val y) K):Yields E G a w o K:=by
 have hx:=aT.val hs x;have hy:=aT.val hs y;generalize S.val x=vx at h hx;generalize S.val y=vy at h hy;unfold Hj at h;split at h
 ·rename_i k m k' n;split at h;have ex:=hx.fo;have ey:=hy.fo;have hg:(eqGuard op t x y (.int k m) (.int k' n)).run E.C.P w=.ok () w:=by unfold eqGuard;split<;>simp
  cases op<;>simp only[Ci]at h<;>first
   |exact h.elim
   |
    (
     obtain⟨hn,c,rfl,h⟩:=h;have hn':¬n<0:=oO
     exact Yields.same (by simp[execOp,ho,ex,ey,hg,binOp,Op.shift,hn']) h (.p _ _ (.int _ _)))
  rename_i hns;split at h;case h_2=>simp_all
  rename_i hk;obtain rfl:=rN hk;have ex:=hx.fo;have ey:=hy.fo;have hg:(eqGuard op t x y (.int k m) (.int k n)).run E.C.P w=.ok () w:=by unfold eqGuard;split<;>simp
  cases op<;>simp only[Om]at h<;>first|exact h.elim|(obtain⟨c,rfl,h⟩:=h;exact Yields.same (by simp[execOp,ho,ex,ey,hg,binOp,Op.intArith,afN,ahr,Yv,VI]) h (.p _ _ (.int _ _)))|(obtain⟨hn,c,rfl,h⟩:=h;exact Yields.same (by simp[execOp,ho,ex,ey,hg,binOp,Op.intDiv,hn]) h (.p _ _ (.int _ _)))|(exact Yields.same (by simp[execOp,ho,ex,ey,hg,binOp,Op.intCmp]) (h.out _ rfl) (.p _ _ (.bool _)))
 rename_i s r;have ex:=hx.jP;have ey:=hy.jP;have hg:(eqGuard op t x y (.string ⟨s.toArray⟩) (.string ⟨r.toArray⟩)).run E.C.P w=.ok () w:=by unfold eqGuard;split<;>simp
 have l1:(⟨s.toArray⟩:ByteArray).toList=s:=by simp[ByteArray.toList_eq]
 have l2:(⟨r.toArray⟩:ByteArray).toList=r:=by simp[ByteArray.toList_eq]
 cases op<;>simp only[On]at h<;>first
  |exact h.elim
  |
   (
    obtain⟨hlen,h⟩:=h;have hlen':¬(((⟨s.toArray⟩:ByteArray).size+(⟨r.toArray⟩:ByteArray).size:Nat):Int)>IntKind.i64.max:=by
     have h1:(⟨s.toArray⟩:ByteArray).size=s.length:=by simp[ByteArray.size]
     have h2:(⟨r.toArray⟩:ByteArray).size=r.length:=by simp[ByteArray.size]
     rw[h1,h2];simp only[IntKind.max,IntKind.signed,IntKind.bits,if_true];omega
    have ajN:(⟨s.toArray⟩:ByteArray)++⟨r.toArray⟩=⟨(s++r).toArray⟩:=by apply ByteArray.ext;simp
    exact Yields.same (v:=.string ⟨(s++r).toArray⟩) (by simp only[execOp,ho,ex,ey,hg,binOp,Op.stringOp,hlen',ajN,Sem.run_bind,Result.andThen_ok,if_false,Sem.run_pure]) h (.p _ _ (.str _)))
  |(exact Yields.same (by simp[execOp,ho,ex,ey,hg,binOp,Op.stringOp,l1,l2];rfl) (h.out _ rfl) (.p _ _ (.bool _)))
  |(exact Yields.same (by simp[execOp,ho,ex,ey,hg,binOp,Op.stringOp,l1,l2]) (h.out _ rfl) (.p _ _ (.bool _)))
 rename_i ob off;generalize hex:a.eval x=vx at hx;generalize hey:a.eval y=vy at hy;obtain rfl:=hy.HH;cases hx with
 |ptr _ _ b fF=>split at h;rename_i ht;exact qN ho hex hey (pZ _ (E.C.ok ht).ptr) (.inl ⟨rfl,h⟩);rename_i ht;exact qN ho hex hey (pZ _ (E.C.ok ht).ptr) (.inr ⟨rfl,h⟩);simp_all
 have hex:=hx.HH;have hey:=hy.HH;split at h;rename_i ht;exact qN ho hex hey (pZ _ (E.C.ok ht).ptr) (.inl ⟨rfl,h⟩);rename_i ht;exact qN ho hex hey (pZ _ (E.C.ok ht).ptr) (.inr ⟨rfl,h⟩);simp_all;rename_i ob off ob' off';generalize hex:a.eval x=vx at hx;generalize hey:a.eval y=vy at hy;cases hx with
 |ptr _ _ b fF=>
  cases hy with
  |ptr _ _ b' AJ=>split at h;rename_i h1 h2 ht;obtain rfl:=aM h1;obtain rfl:=aM h2;rw[fF]at AJ;obtain rfl:=au AJ;split at h;rename_i he;exact qN ho hex hey (xM _ (E.C.ok ht).ptr (E.C.ok he)) (.inl ⟨rfl,h⟩);simp_all;rename_i h1 h2 ht;obtain rfl:=aM h1;obtain rfl:=aM h2;rw[fF]at AJ;obtain rfl:=au AJ;split at h;rename_i he;exact qN ho hex hey (xM _ (E.C.ok ht).ptr (E.C.ok he)) (.inr ⟨rfl,h⟩);simp_all;simp_all
 rename_i b c;have ex:=hx.nB;have ey:=hy.nB;have hg:(eqGuard op t x y (.bool b) (.bool c)).run E.C.P w=.ok () w:=by unfold eqGuard;split<;>simp
 split at h;rename_i ht;have hu:=(E.C.ok ht).bool;have hq:(Op.equal t (.bool b) (.bool c)).run E.C.P w=.ok (b==c) w:=run_equal_bool w t b c hu;cases op<;>simp only at h<;>first|exact h.elim|(exact Yields.same (by simp[execOp,ho,ex,ey,hg,binOp,hq];rfl) (h.out _ rfl) (.p _ _ (.bool _)))|(exact Yields.same (by simp[execOp,ho,ex,ey,hg,binOp,hq]) (h.out _ rfl) (.p _ _ (.bool _)))
 simp_all;exact OP hs ho hx hy h
theorem HI (hs:bt E G S a w){t:TypeId}{pv:Value}{vx:FV}(hne:∀o b off,vx≠.gD o b off)(hx:aT G w pv vx)(h:nu E.C S.aI t vx K):∃ad v x,pv=.pointer (some ad)/\(loadVar t ad).run E.C.P w=.ok v w/\K x/\aT G w v x:=by
 unfold nu at h;split at h;simp_all;rename_i i hi;have hok:=E.C.ok hi;split at h;rename_i ob off;obtain⟨b,hv,fF⟩:=hx.oU;split at h;simp_all;rename_i cells hcells;obtain⟨b',hb',hc⟩:=hs.aI _ _ hcells;obtain rfl:b'=b:=by simp_all
 split at h;rename_i hagg;split at h;simp_all;rename_i cs hcs;rw[nA]at hcs;obtain⟨rfl,hle⟩:=wv hcs;rw[cQ]at hle;have tN:∀j,j<i.size->∃c x,w.cell? ⟨b',off+j,none⟩=some c/\cells[off+j]?=some x/\aT G w c x:=λj hj=>by grind
 let f:Nat->Value:=λj=>(w.cell? ⟨b',off+j,none⟩).getD undef;have hf:∀j,j<i.size->w.cell? ((⟨b',off,none⟩:Addr).add j)=some (f j):=λj hj=>by obtain⟨c,x,h1,-⟩:=tN j hj;rw[Addr.add_lit];grind
 have hrun:=run_loadCells (P:=E.C.P) w ⟨b',off,none⟩ i.size f hf;refine⟨_,.agg ((List.range i.size).map f).toArray,_,hv,by simp[loadVar,hok.isAgg,hagg,hok.sizeOf,hrun],h,?_⟩;refine .agg _ _ (by simp_all) λj c x hj hx=>?_;grind;rename_i hagg;split at h;simp_all;rename_i y ys hys;have hy:=mo hys;obtain⟨c,h1,h2⟩:=hc off y hy;exact⟨_,_,_,hv,by simp[loadVar,hok.isAgg,hagg,h1],h,h2⟩;rename_i xs;obtain⟨b,off,hv,hc⟩:=hx.plain.Cz;split at h;rename_i hagg;split at h;simp_all;rename_i cs hcs;obtain⟨rfl,hle⟩:=Bj hcs;have tN:∀j,j<i.size->∃c x,w.cell? ⟨b,off+j,none⟩=some c/\xs[j]?=some x/\x.one=true/\dA G.bk w c x:=λj hj=>by
  have hl:j<xs.length:=oO
  obtain⟨c,h0,h1,-,h2⟩:=hc j _ (av hl);simp_all
 let f:Nat->Value:=λj=>(w.cell? ⟨b,off+j,none⟩).getD undef;have hf:∀j,j<i.size->w.cell? ((⟨b,off,none⟩:Addr).add j)=some (f j):=λj hj=>by obtain⟨c,x,h1,-⟩:=tN j hj;rw[Addr.add_lit];grind
 have hrun:=run_loadCells (P:=E.C.P) w ⟨b,off,none⟩ i.size f hf;refine⟨_,.agg ((List.range i.size).map f).toArray,_,hv,by simp[loadVar,hok.isAgg,hagg,hok.sizeOf,hrun],h,?_⟩;refine .p _ _ (.agg _ _ (by simp_all) (λx hx=>?_) λj c x hj hx=>?_);obtain⟨j,hj⟩:=List.mem_iff_getElem?.1 hx;grind;grind;rename_i hagg;split at h;simp_all;rename_i y ys;obtain⟨c,h0,h1,-,h2⟩:=hc 0 y rfl;exact⟨_,_,_,hv,by simp at h1;simp[loadVar,hok.isAgg,hagg,h1],h,.p _ _ h2⟩;simp_all;simp_all
theorem aT.yD {v:Value}{o base off:Nat}(h:aT G w v (.gD o base off)):aT G w v (.ptr o (base+off)):=by
 cases h with
 |gD _ _ _ b h=>exact .ptr o (base+off) b h
theorem OQ {A ys B:List FV}{base off:Nat}(hA:A.length=base)(h:off<=ys.length):(A++(ys++B)).drop (base+off)=ys.drop off++B:=by rw[List.drop_append,hA,show base+off-base=off by omega,CA (show A.length<=base+off by omega),gx,CB h]
theorem Yw {n:Nat}{xs:List FV}(h:n<=xs.length):takeN n xs=some (xs.take n):=by
 induction n generalizing xs with
 |zero=>rfl
 |succ n ih=>
  cases xs with
  |nil=>grind
  |cons x xs=>simp only[takeN,ih (by simpa using h),CC]
theorem KM (hs:bt E G S a w){t:TypeId}{pv:Value}{vx:FV}(hx:aT G w pv vx)(h:nu E.C S.aI t vx K):∃ad v x,pv=.pointer (some ad)/\(loadVar t ad).run E.C.P w=.ok v w/\K x/\aT G w v x:=by
 by_cases hne:∀o b off,vx≠.gD o b off;exact HI hs hne hx h;have :∃o b off,vx=.gD o b off:=by cases vx<;>first|exact⟨_,_,_,rfl⟩|exact absurd (λ_ _ _ e=>by cases e) hne
 obtain⟨o,base,off,rfl⟩:=this;refine HI hs (λ_ _ _ e=>by grind) hx.yD ?_;unfold nu at h⊢;split at h;omega;rename_i i hi;simp only at h⊢;split at h;omega;rename_i cells hc;obtain⟨A,ys,B,hcells,hA,h⟩:=h;split at h;rename_i hagg;split at h;simp_all;rename_i cs hcs;rw[nA]at hcs⊢;obtain⟨rfl,hle⟩:=wv hcs;rw[cQ]at hle;have :takeN i.size ((A++(ys++B)).drop (base+off))=some ((ys.drop off).take i.size):=by
  by_cases hl:off<=ys.length;rw[OQ hA hl,Yw (by grind),sG (by simp_all)];have h0:i.size=0:=oO
  rw[h0];rfl
 simp_all;rename_i hagg;split at h;simp_all;rename_i y zs hzs;rw[nA]at hzs⊢;have hl:off<=ys.length:=by have :=bg List.length hzs;simp at this;omega
 rw[hcells,OQ hA hl,hzs];grind
theorem OR (hs:bt E G S a w){t:TypeId}{x:Operand}(ho:o.op=.load t x)(h:nu E.C S.aI t (S.val x) K):Yields E G a w o K:=by obtain⟨ad,v,y,h1,h2,h3,h4⟩:=KM hs (aT.val hs x) h;exact Yields.same (by simp[execOp,ho,h1,Instr.loadAt,Instr.sureAddr,h2]) h3 h4
end
section
variable {E:Env}{G:bf}{S:aj}{a:Act}{w:World}{o:Oper}{K:FV->Prop}
theorem OS (hs:bt E G S a w){c x y:Operand}(ho:o.op=.pick c x y)(h:match S.val c with|.p (.bool true)=>force (S.val x) K|.p (.bool false)=>force (S.val y) K|_=>False):Yields E G a w o K:=by have hc:=aT.val hs c;generalize S.val c=vc at h hc;split at h;rw[force_eq]at h;exact Yields.same (by simp[execOp,ho,hc.nB,asBool]) h (aT.val hs x);rw[force_eq]at h;exact Yields.same (by simp[execOp,ho,hc.nB,asBool]) h (aT.val hs y);simp_all
theorem OT (hs:bt E G S a w){op:UnOp}{t:TypeId}{x:Operand}(ho:o.op=.unOp op t x)(h:RJ op (S.val x) K):Yields E G a w o K:=by
 have hx:=aT.val hs x;generalize S.val x=vx at h hx;have hd:(op=.not/\∃b,vx=.p (.bool b)/\(Al λt:Bool=>t=!b->K (.p (.bool t))))\/(op=.neg/\∃k n,vx=.p (.int k n)/\∃c,k.wrap (0-n)=c/\K (.p (.int k c)))\/(op=.xor/\∃k n,vx=.p (.int k n)/\∃c,yb .xor k (match k.signed with|true=>-1|false=>k.max) n=c/\K (.p (.int k c))):=by unfold RJ at h;split at h;simp_all;grind;grind;simp_all
 rcases hd with⟨rfl,b,rfl,h⟩|⟨rfl,k,n,rfl,c,rfl,h⟩|⟨rfl,k,n,rfl,c,rfl,h⟩;have ex:=hx.nB;exact Yields.same (v:=.bool !b) (by simp[execOp,ho,ex,Op.unary]) (h.out _ rfl) (.p _ _ (.bool _));have ex:=hx.fo;exact Yields.same (v:=.int k (k.wrap (0-n))) (by simp[execOp,ho,ex,Op.unary,Op.intArith]) h (.p _ _ (.int _ _));have ex:=hx.fo;refine Yields.same (v:=.int k (yb .xor k (match k.signed with|true=>-1|false=>k.max) n)) ?_ h (.p _ _ (.int _ _));have e:(if k.signed=true then(-1:Int)else k.max)=(match k.signed with|true=>-1|false=>k.max):=by cases k.signed<;>rfl
 simp[execOp,ho,ex,Op.unary,Yv,e]
theorem foldl_push (bs:List UInt8):∀(r:ByteArray),(bs.map λb=>(b.toNat:Int)).foldl (λr n=>r.push (UInt8.ofNat n.toNat)) r=⟨r.data++bs.toArray⟩:=by
 induction bs with
 |nil=>simp_all
 |cons b bs ih=>simp_all
theorem HJ (hs:bt E G S a w){src dst:TypeId}{x:Operand}(ho:o.op=.convert src dst x)(h:RK E.C src dst (S.val x) K):Yields E G a w o K:=by
 have hx:=aT.val hs x;generalize S.val x=vx at h hx;unfold RK at h;split at h;simp_all;rename_i a0 b0 sh z0 hi;obtain⟨d,hd,hsh⟩:=(E.C.ok hi).yC;split at h;rename_i hd';have hu:=(E.C.ok hd').int;split at h;have ex:=hx.fo;obtain⟨c,rfl,h⟩:=h;exact Yields.same (by simp[execOp,ho,ex,convert,run_underlying hd,run_underlying hu,Conv.intToInt]) h (.p _ _ (.int _ _));simp_all;rename_i hd';have hu:=(E.C.ok hd').str;split at h;have ex:=hx.jP;exact Yields.same (by simp[execOp,ho,ex,convert,run_underlying hd,run_underlying hu]) h (.p _ _ (.str _));have ex:=hx.fo;obtain⟨c,rfl,hc,h⟩:=h;have acG:Utf8.encode (c.toNat:Int)=⟨#[c]⟩:=by
  have hv:Utf8.valid (c.toNat:Int)=true:=by simp[Utf8.valid];omega
  unfold Utf8.encode;simp only[hv,if_true,ko,hc];simp
 refine Yields.same (v:=.string ⟨[c].toArray⟩) ?_ h (.p _ _ (.str _));simp[execOp,ho,ex,convert,run_underlying hd,run_underlying hu,Conv.intToString,acG];unfold Ud at h;split at h;rename_i e xs hxs;split at h;rename_i by0 z1 he;obtain⟨bs,rfl,h⟩:=h;have hse:=(E.C.ok hi).slice;have hue:=(E.C.ok he).int;obtain⟨ad,c,hv,hcap,hne⟩:=(hx.elems hxs).mq;have hl:(bs.map λb=>[AV.int .u8 (b.toNat:Int)]).length=bs.length:=by simp
 rw[hl]at hv;refine Yields.same (v:=.string ⟨bs.toArray⟩) ?_ h (.p _ _ (.str _));have hrun:(Conv.bytesToString (.slice ad bs.length c)).run E.C.P w=.ok (.string ⟨bs.toArray⟩) w:=by
  by_cases h0:bs=[];subst h0;cases ad with
  |none=>rfl
  |some ad=>rfl
  obtain⟨b,off,bM,cell,rfl,g1,g2⟩:=hne (by simp_all);have hpos:0<bs.length:=nR.2 h0;have he1:bM=1:=(g1 0 [AV.int .u8 (bs[0].toNat:Int)] (by grind)).symm;subst he1;have hcell:∀q,q<bs.length->w.cell? ((⟨b,off,none⟩:Addr).add q)=some (((bs.map λb=>(b.toNat:Int))[q]?).elim undef (Value.int .u8)):=λq hq=>by obtain⟨-,g3,-,g4⟩:=g2 q [AV.int .u8 (bs[q].toNat:Int)] 0 _ (by grind) rfl;rw[Addr.add_lit,show off+q=off+q*1+0 from oO,g3];generalize cell q 0=cc at g4;cases g4;grind
  have :=run_loadCells (P:=E.C.P) w ⟨b,off,none⟩ bs.length _ hcell;have ahs:(loadCells ⟨b,off,none⟩ bs.length).run E.C.P w=.ok ((bs.map λb=>(b.toNat:Int)).map (Value.int .u8)).toArray w:=by rw[this];congr 1;apply iJ.1;apply fZ;intro q;by_cases hq:q<bs.length;grind;grind
  rw[run_bytesToString w _ _ _ _ ahs,foldl_push];congr 2;simp
 simp[execOp,ho,hv,run_convert_bytes_string w src dst e ad bs.length c hse hue hu,hrun];simp_all;simp_all;simp_all
theorem yE (hs:bt E G S a w){t:TypeId}{x:Operand}(ho:o.op=.makeInterface t x)(h:match bO E.C.iZ t with
 |some ⟨_,_,.iface,_⟩=>False
 |some _=>match(S.val x).eG with|some y=>K (.p (.iface t y))|none=>False
 |none=>False):Yields E G a w o K:=by
 have hx:=aT.val hs x;generalize S.val x=vx at h hx;split at h;simp_all;rename_i i hne hi;obtain⟨d,hd,hsh⟩:=(E.C.ok hi).yC;split at h;rename_i y hy;have hr:=hx.eG hy;refine Yields.same (v:=.iface t (a.eval x)) ?_ h (.p _ _ (.iface _ _ _ hr));cases d<;>first|(simp[execOp,ho,Instr.makeInterface,run_underlying hd];done)|(exfalso;obtain⟨s,b,sh,z⟩:=i;simp only[shapeOf]at hsh;simp_all)
 simp_all;simp_all
theorem xN (hs:bt E G S a w){fn:Fn}{first captured:Array Operand}(ho:o.op=.makeFunc fn first captured)(h:K (.fn fn (first.toList.map S.val) (captured.toList.map S.val))):Yields E G a w o K:=by
 refine Yields.same (v:=.func fn (first.toList.map a.eval).toArray (captured.toList.map a.eval).toArray) ?_ h (.fn fn _ _ _ _ (by simp) (by simp) (λi c x hc hx=>?_) (λi c x hc hx=>?_));simp[execOp,ho,Instr.makeFunc,<-CD];rw[aN]at hc hx;cases h0:first.toList[i]?with
 |none=>simp_all
 |some y=>simp[h0]at hc hx;subst hc;subst hx;exact aT.val hs y
 rw[aN]at hc hx;cases h0:captured.toList[i]?with
 |none=>simp_all
 |some y=>simp[h0]at hc hx;subst hc;subst hx;exact aT.val hs y
theorem Gl (hs:bt E G S a w){x:Operand}(ho:o.op=.nilCheck x)(h:match S.val x with|.ptr b off=>K (.ptr b off)|.p (.imp xs)=>K (.p (.imp xs))|.gD o base off=>K (.gD o base off)|.p (.fn (.func f) a b)=>K (.p (.fn (.func f) a b))|.fn (.func f) a b=>K (.fn (.func f) a b)|_=>False):Yields E G a w o K:=by have hx:=aT.val hs x;generalize S.val x=vx at h hx;split at h;obtain⟨b,hv,-⟩:=hx.oU;exact Yields.same (by simp[execOp,ho,hv]) h (hv▸hx);obtain⟨b,off,hv,-⟩:=hx.plain.Cz;exact Yields.same (by simp[execOp,ho,hv]) h (hv▸hx);obtain⟨b,hv,-⟩:=hx.yD.oU;exact Yields.same (by simp[execOp,ho,hv]) h (hv▸hx);have h1:=hx.plain;generalize hv:a.eval x=v at hx h1;cases h1;exact Yields.same (by simp[execOp,ho,hv]) h hx;generalize hv:a.eval x=v at hx;have hx':=hx;cases hx';exact Yields.same (by simp[execOp,ho,hv]) h hx;simp_all
theorem tO {P:Program}{w:World}{b off:Nat}{g:Field}{n:Nat}(h:(Go.sizeOf g.type).run P w=.ok n w)(hn:n≠0):(fieldPlace ⟨b,off,none⟩ g).run P w=.ok ⟨b,off+g.offset,none⟩ w:=by simp[fieldPlace,h,hn,Addr.add_lit]
theorem Eo (hs:bt E G S a w){s:TypeId}{x:Operand}{f:Nat}(ho:o.op=.fieldAddr s x f)(h:nv E.C s (S.val x) f K):Yields E G a w o K:=by have hx:=aT.val hs x;generalize S.val x=vx at h hx;unfold nv at h;split at h;rename_i hi;split at h;simp_all;rename_i off' t r hd;obtain⟨gs,g,h1,h2,h3,h4⟩:=(E.C.ok hi).field hd;split at h;simp_all;rename_i j hj;split at h;simp_all;rename_i n hn;have hsz:=(E.C.ok hj).sizeOf w;rw[<-h4]at hsz;split at h;rename_i b0 off;obtain⟨b,hv,hl⟩:=hx.oU;refine Yields.same (v:=.pointer (some ⟨b,off+off',none⟩)) ?_ h (.ptr _ _ _ hl);simp[execOp,ho,hv,Instr.fieldAt,run_underlying h1,h2,Instr.sureAddr,tO hsz oO,h3];rename_i xs;obtain⟨b,off,hv,hc⟩:=hx.plain.Cz;refine Yields.same (v:=.pointer (some ⟨b,off+off',none⟩)) ?_ h (.p _ _ (dA.RU λk y hy=>?_));simp[execOp,ho,hv,Instr.fieldAt,run_underlying h1,h2,Instr.sureAddr,tO hsz oO,h3];rw[nA,gY]at hy;grind;rename_i b0 base off;obtain⟨b,hv,hl⟩:=hx.yD.oU;refine Yields.same (v:=.pointer (some ⟨b,base+(off+off'),none⟩)) ?_ h (.gD _ _ _ _ hl);simp[execOp,ho,hv,Instr.fieldAt,run_underlying h1,h2,Instr.sureAddr,tO hsz oO,h3,fH];simp_all;simp_all
theorem CE {P:Program}{w:World}{t:TypeId}{i:jF}(hok:fN P t i)(hagg:i.shape.isAgg=true)(cs:Array Value)(off:Nat):(part t cs off).run P w=.ok (.agg (cs.extract off (off+i.size))) w:=by simp[part,hok.isAgg,hagg,hok.sizeOf]
theorem CG {P:Program}{w:World}{t:TypeId}{i:jF}(hok:fN P t i)(hagg:i.shape.isAgg=false)(cs:Array Value)(off:Nat)(v:Value)(hv:cs[off]?=some v):(part t cs off).run P w=.ok v w:=by simp[part,hok.isAgg,hagg,hv]
theorem My (hs:bt E G S a w){s:TypeId}{x:Operand}{f:Nat}(ho:o.op=.field s x f)(h:vZ E.C s (S.val x) f K):Yields E G a w o K:=by
 have hx:=aT.val hs x;generalize S.val x=vx at h hx;unfold vZ at h;split at h;rename_i hi;split at h;simp_all;rename_i off' t r hd;obtain⟨gs,g,h1,h2,h3,h4⟩:=(E.C.ok hi).field hd;split at h;simp_all;rename_i j hj;have hok:=E.C.ok hj;subst h3;subst h4;split at h;rename_i xs;generalize hv:a.eval x=v at hx;cases hx with
 |agg cs xs hl hc=>
  split at h;rename_i hagg;split at h;rename_i ys hys;rw[nA]at hys;obtain⟨rfl,hle⟩:=wv hys;refine Yields.same (v:=.agg ((cs.drop g.offset).take j.size).toArray) ?_ h (.agg _ _ (by grind) λk c y hk hy=>?_);have e1:cs.toArray.extract g.offset (g.offset+j.size)=((cs.drop g.offset).take j.size).toArray:=by simp[wz,wA]
  simp[execOp,ho,hv,Instr.field,run_underlying h1,h2,asAgg,CE hok hagg,e1];grind;simp_all;rename_i hagg;split at h;rename_i y ys hys;have hy:=mo hys;have hlt:g.offset<cs.length:=by rw[hl];exact(aJ.1 hy).1
  refine Yields.same (v:=cs[g.offset]) ?_ h (hc _ _ _ (av hlt) hy);simp[execOp,ho,hv,Instr.field,run_underlying h1,h2,asAgg,CG hok hagg cs.toArray g.offset cs[g.offset] (by simp_all)];simp_all
 rename_i xs;have hx:=hx.plain;generalize hv:a.eval x=v at hx;cases hx with
 |agg cs xs hl hone hc=>
  split at h;rename_i hagg;split at h;rename_i ys hys;rw[nA]at hys;obtain⟨rfl,hle⟩:=Bj hys;refine Yields.same (v:=.agg ((cs.drop g.offset).take j.size).toArray) ?_ h (.p _ _ (.agg _ _ (by grind) (λz hz=>hone z (CH (wB hz))) λk c y hk hy=>?_));have e1:cs.toArray.extract g.offset (g.offset+j.size)=((cs.drop g.offset).take j.size).toArray:=by simp[wz,wA]
  simp[execOp,ho,hv,Instr.field,run_underlying h1,h2,asAgg,CE hok hagg,e1];grind;simp_all;rename_i hagg;split at h;rename_i y ys hys;have hy:=mo hys;have hlt:g.offset<cs.length:=by rw[hl];exact(aJ.1 hy).1
  refine Yields.same (v:=cs[g.offset]) ?_ h (.p _ _ (hc _ _ _ (av hlt) hy));simp[execOp,ho,hv,Instr.field,run_underlying h1,h2,asAgg,CG hok hagg cs.toArray g.offset cs[g.offset] (by simp_all)];simp_all
 simp_all;simp_all
theorem gN {P:Program}{w:World}(k:IntKind)(n:Int):(asIntOf (.int k n)).run P w=.ok (k,n) w:=rfl
theorem Ep (hs:bt E G S a w){t:TypeId}{x i:Operand}(ho:o.op=.indexAddr t x i)(h:js E.C S.aI t (S.val x) (S.val i) K):Yields E G a w o K:=by
 have hx:=aT.val hs x;have hi:=aT.val hs i;generalize S.val x=vx at h hx;generalize S.val i=vi at h hi;unfold js at h;split at h;rename_i k n;have ei:=hi.fo;split at h;rename_i e _ ht;have hu:=(E.C.ok ht).slice;split at h;simp_all;rename_i j hj;have hsz:=(E.C.ok hj).sizeOf w;split at h;rename_i ob T bM;split at h;rename_i cells hcells hbe;obtain⟨m,base,rfl,rfl,hle,h⟩:=h;have hbe:=aM hbe;generalize hv:a.eval x=v at hx;cases hx with
 |gd _ _ _ n c b h1 h2 h3 h4=>
  obtain⟨-,-,h5⟩:=hs.cz _ _ _ _ h1 h2;have h6:=h5 cells hcells;simp only at h6;have hlt:m<n:=by
   rw[h6]at hle;have :(m+1)*bM<=n*bM:=by rw[bw,kn];exact hle
   exact Nat.le_of_mul_le_mul_right this h4
  refine Yields.same (v:=.pointer (some ⟨b,m*bM+0,none⟩)) ?_ h (.gD _ _ _ _ h1);have hin:(0:Int)<=(m:Int)/\(m:Int)<(n:Int):=⟨oO,oO⟩;simp[execOp,ho,ei,hv,Instr.indexAt,gN,run_underlying hu,hin,hsz,Addr.add_lit,hbe]
 simp_all;rename_i ob bx T bM;split at h;rename_i cells hcells hbe;obtain⟨m,base,rfl,rfl,hle,h⟩:=h;have hbe:=aM hbe;generalize hv:a.eval x=v at hx;cases hx with
 |uk _ _ _ _ n c b off h1 h2 h0 h3 h4=>
  obtain⟨-,-,h5⟩:=hs.cz _ _ _ _ h1 h2;have h6:=h5 cells hcells;simp only at h6;have hlt:bx+m<n:=by
   rw[h6]at hle;have :(bx+m+1)*bM<=n*bM:=by rw[bw (bx+m) 1,kn];exact hle
   exact Nat.le_of_mul_le_mul_right this h4
  obtain rfl:=h0.2 oO;refine Yields.same (v:=.pointer (some ⟨b,(bx+m)*bM+0,none⟩)) ?_ h (.gD _ _ _ _ h1);have hin:(0:Int)<=(m:Int)/\(m:Int)<((n-bx:Nat):Int):=⟨oO,oO⟩;have amq:bx*bM+m*bM=(bx+m)*bM:=by rw[bw]
  simp[execOp,ho,ei,hv,Instr.indexAt,gN,run_underlying hu,hin,hsz,Addr.add_lit,hbe];simp_all
 simp_all;split at h;simp_all;rename_i xs hxs;obtain⟨h0,ys,hys,hlen,h⟩:=h;obtain⟨ad,c,hv,hcap,hne⟩:=(hx.elems hxs).mq;have hlt:n.toNat<xs.length:=(aJ.1 hys).1;obtain⟨b,off,bM,cell,rfl,h1,h2⟩:=hne (by grind);have Yx:bM=j.size:=(h1 _ _ hys).symm.trans hlen;refine Yields.same (v:=.pointer (some ⟨b,off+n.toNat*bM,none⟩)) ?_ h (.p _ _ (dA.RU λm y hy=>?_));have hin:0<=n/\n<(xs.length:Int):=⟨h0,oO⟩;simp[execOp,ho,ei,hv,Instr.indexAt,gN,run_underlying hu,hin,hsz,Addr.add_lit,Yx];grind;rename_i len e _ ht;have hu:=(E.C.ok ht).array;split at h;simp_all;rename_i j hj;have hsz:=(E.C.ok hj).sizeOf w;obtain⟨m,rfl,hm,h⟩:=h;have hin:(0:Int)<=(m:Int)/\(m:Int)<(len:Int):=⟨oO,oO⟩;split at h;rename_i b0 off;obtain⟨b,hv,hl⟩:=hx.oU;obtain⟨sym,h⟩:=h;cases sym with
 |true=>obtain⟨base,rfl,h⟩:=h;exact Yields.same (v:=.pointer (some ⟨b,off+m*j.size+0,none⟩)) (by simp[execOp,ho,ei,hv,Instr.indexAt,gN,run_underlying hu,Instr.sureAddr,hin,hsz,Addr.add_lit]) h (.gD _ _ _ _ hl)
 |false=>exact Yields.same (v:=.pointer (some ⟨b,off+m*j.size,none⟩)) (by simp[execOp,ho,ei,hv,Instr.indexAt,gN,run_underlying hu,Instr.sureAddr,hin,hsz,Addr.add_lit]) h (.ptr _ _ _ hl)
 rename_i b0 b1 off;obtain⟨b,hv,hl⟩:=hx.yD.oU;obtain⟨base,rfl,h⟩:=h;refine Yields.same (v:=.pointer (some ⟨b,b1+(off+m*j.size)+0,none⟩)) ?_ h (.gD _ _ _ _ hl);simp[execOp,ho,ei,hv,Instr.indexAt,gN,run_underlying hu,Instr.sureAddr,hin,hsz,Addr.add_lit,fH];rename_i xs;obtain⟨b,off,hv,hc⟩:=hx.plain.Cz;obtain⟨ys,rfl,h⟩:=h;refine Yields.same (v:=.pointer (some ⟨b,off+m*j.size,none⟩)) ?_ h (.p _ _ (dA.RU λk y hy=>?_));simp[execOp,ho,ei,hv,Instr.indexAt,gN,run_underlying hu,Instr.sureAddr,hin,hsz,Addr.add_lit];rw[nA,gY]at hy;grind;simp_all;simp_all;simp_all
theorem Mz (hs:bt E G S a w){t:TypeId}{x i:Operand}(ho:o.op=.index t x i)(h:we E.C t (S.val x) (S.val i) K):Yields E G a w o K:=by
 have hx:=aT.val hs x;have hi:=aT.val hs i;generalize S.val x=vx at h hx;generalize S.val i=vi at h hi;unfold we at h;split at h;rename_i k n;have ei:=hi.fo;split at h;rename_i ht;have hu:=(E.C.ok ht).str;split at h;rename_i s;have ex:=hx.jP;obtain⟨h0,c,hc,h⟩:=h;have hlt:=(aJ.1 hc).1;have hg:(⟨s.toArray⟩:ByteArray)[n.toNat]?=some c:=by
  have :n.toNat<(⟨s.toArray⟩:ByteArray).size:=by simpa[ByteArray.size]using hlt
  refine(getElem?_pos (⟨s.toArray⟩:ByteArray) n.toNat this).trans ?_;have h2:=aJ.1 hc;simpa[ByteArray.getElem_eq_getElem_data]using h2.2
 exact Yields.same (v:=.int .u8 c.toNat) (by simp[execOp,ho,ei,ex,Instr.index,gN,run_underlying hu,h0,hg]) h (.p _ _ (.int _ _));simp_all;rename_i len e _ ht;have hu:=(E.C.ok ht).array;split at h;simp_all;rename_i j hj;have hok:=E.C.ok hj;split at h;rename_i hagg;obtain⟨m,rfl,hm,h⟩:=h;have h0:(0:Int)<=(m:Int):=oO
 split at h;rename_i xs;generalize hv:a.eval x=v at hx;cases hx with
 |agg cs xs hl hc=>
  split at h;rename_i ys hys;rw[nA]at hys;obtain⟨rfl,hle⟩:=wv hys;refine Yields.same (v:=.agg ((cs.drop (m*j.size)).take j.size).toArray) ?_ h (.agg _ _ (by grind) λk c y hk hy=>?_);have e1:cs.toArray.extract (m*j.size) (m*j.size+j.size)=((cs.drop (m*j.size)).take j.size).toArray:=by simp[wz,wA]
  simp[execOp,ho,hv,ei,Instr.index,gN,run_underlying hu,h0,hm,hok.sizeOf,CE hok hagg,e1];grind;simp_all
 rename_i xs;have hx:=hx.plain;generalize hv:a.eval x=v at hx;cases hx with
 |agg cs xs hl hone hc=>
  split at h;rename_i ys hys;rw[nA]at hys;obtain⟨rfl,hle⟩:=Bj hys;refine Yields.same (v:=.agg ((cs.drop (m*j.size)).take j.size).toArray) ?_ h (.p _ _ (.agg _ _ (by grind) (λz hz=>hone z (CH (wB hz))) λk c y hk hy=>?_));have e1:cs.toArray.extract (m*j.size) (m*j.size+j.size)=((cs.drop (m*j.size)).take j.size).toArray:=by simp[wz,wA]
  simp[execOp,ho,hv,ei,Instr.index,gN,run_underlying hu,h0,hm,hok.sizeOf,CE hok hagg,e1];grind;simp_all
 simp_all;rename_i hagg;obtain⟨m,rfl,hm,h⟩:=h;have h0:(0:Int)<=(m:Int):=oO
 have h1:(m:Int)<(len:Int):=oO
 split at h;rename_i xs;generalize hv:a.eval x=v at hx;cases hx with
 |agg cs xs hl hc=>
  split at h;rename_i y ys hys;have hy:=mo hys;have hlt:m*j.size<cs.length:=by rw[hl];exact(aJ.1 hy).1
  refine Yields.same (v:=cs[m*j.size]) ?_ h (hc _ _ _ (av hlt) hy);simp[execOp,ho,hv,ei,Instr.index,gN,run_underlying hu,h0,hm,hok.sizeOf,CG hok hagg cs.toArray (m*j.size) cs[m*j.size] (by simp_all)];simp_all
 rename_i xs;have hx:=hx.plain;generalize hv:a.eval x=v at hx;cases hx with
 |agg cs xs hl hone hc=>
  split at h;rename_i y ys hys;have hy:=mo hys;have hlt:m*j.size<cs.length:=by rw[hl];exact(aJ.1 hy).1
  refine Yields.same (v:=cs[m*j.size]) ?_ h (.p _ _ (hc _ _ _ (av hlt) hy));simp[execOp,ho,hv,ei,Instr.index,gN,run_underlying hu,h0,hm,hok.sizeOf,CG hok hagg cs.toArray (m*j.size) cs[m*j.size] (by simp_all)];simp_all
 simp_all;simp_all;simp_all
theorem HK (hs:bt E G S a w){x:Operand}{i:Nat}(ho:o.op=.extract x i)(h:match S.val x with
 |.eW xs=>match gh i xs with|y::_=>K y|[]=>False
 |.p (.eW xs)=>match gh i xs with|y::_=>K (.p y)|[]=>False
 |_=>False):Yields E G a w o K:=by
 have hx:=aT.val hs x;generalize S.val x=vx at h hx;split at h;generalize hv:a.eval x=v at hx;cases hx with
 |eW cs xs hl hc=>
  split at h;rename_i y ys hys;have hy:=mo hys;have hlt:i<cs.length:=by rw[hl];exact(aJ.1 hy).1
  exact Yields.same (v:=cs[i]) (by simp[execOp,ho,hv,Instr.extract,hlt]) h (hc _ _ _ (av hlt) hy);simp_all
 have hx:=hx.plain;generalize hv:a.eval x=v at hx;cases hx with
 |eW cs xs hl hc=>
  split at h;rename_i y ys hys;have hy:=mo hys;have hlt:i<cs.length:=by rw[hl];exact(aJ.1 hy).1
  exact Yields.same (v:=cs[i]) (by simp[execOp,ho,hv,Instr.extract,hlt]) h (.p _ _ (hc _ _ _ (av hlt) hy));simp_all
 simp_all
end
section
variable {E:Env}{G:bf}{S:aj}{a:Act}{w:World}{o:Oper}{K:FV->Prop}
theorem pK (hs:bt E G S a w){x:Option Operand}{d:Nat}{K:Nat->Prop}(h:uv (x.map S.val) d K):∃m,K m/\((x=none/\m=d)\/∃y k,x=some y/\a.eval y=.int k m):=by
 cases x with
 |none=>exact⟨d,h,.inl ⟨rfl,rfl⟩⟩
 |some y=>have hy:=aT.val hs y;simp only[eM,uv]at h;generalize S.val y=vy at h hy;split at h;simp_all;rename_i k n heq;obtain rfl:=au heq;obtain⟨m,rfl,h⟩:=h;exact⟨m,h,.inr ⟨y,k,rfl,hy.fo⟩⟩;simp_all
theorem mK {P:Program}{w:World}(isSlice:Bool)(len cap:Nat)(lo hi:Option Value)(l h:Nat)(hl:l<=h)(hh:h<=cap)(h1:(lo=none/\l=0)\/∃k:IntKind,lo=some (.int k l))(h2:(hi=none/\h=len)\/∃k:IntKind,hi=some (.int k h)):(Instr.sliceBounds isSlice len cap lo hi none).run P w=.ok (l,h,cap) w:=by
 have b1:∀(k:IntKind)(m y:Nat)(c:BoundsCode),m<=y->(Instr.sliceBound (.int k m) y c).run P w=.ok m w:=λk m y c hm=>by have :(0:Int)<=(m:Int)/\(m:Int)<=(y:Int):=⟨oO,oO⟩;simp[Instr.sliceBound,gN,this]
 rcases h2 with⟨rfl,rfl⟩|⟨k2,rfl⟩<;>rcases h1 with⟨rfl,rfl⟩|⟨k1,rfl⟩;rfl;simp[Instr.sliceBounds,b1 k1 l _ _ hl];simp[Instr.sliceBounds,b1 k2 h _ _ hh];simp[Instr.sliceBounds,b1 k2 h _ _ hh,b1 k1 l _ _ hl]
theorem lE {a:Act}{x:Option Operand}{m d:Nat}(h:(x=none/\m=d)\/∃y k,x=some y/\a.eval y=.int k m):(x.map a.eval=none/\m=d)\/∃k:IntKind,x.map a.eval=some (.int k m):=by grind
theorem AK (s:List UInt8)(l h:Nat)(hh:h<=s.length):(⟨s.toArray⟩:ByteArray).extract l h=⟨((s.take h).drop l).toArray⟩:=by apply ByteArray.ext;rw[ByteArray.data_extract];grind
theorem MA (hs:bt E G S a w){t:TypeId}{x:Operand}{lo hi:Option Operand}(ho:o.op=.slice t x lo hi none)(h:Mn E.C t (S.val x) (lo.map S.val) (hi.map S.val) K):Yields E G a w o K:=by
 have hx:=aT.val hs x;generalize S.val x=vx at h hx;unfold Mn at h;split at h;rename_i ht;have hu:=(E.C.ok ht).str;split at h;rename_i s;have ex:=hx.jP;obtain⟨m,h,h2⟩:=pK hs h;obtain⟨l,⟨hl,hm,s',rfl,h⟩,h1⟩:=pK hs h;have hsz:(⟨s.toArray⟩:ByteArray).size=s.length:=by simp[ByteArray.size]
 have hb:=mK (P:=E.C.P) (w:=w) false s.length s.length _ _ l m hl hm (lE h1) (lE h2);refine Yields.same (v:=.string ⟨((s.take m).drop l).toArray⟩) ?_ h (.p _ _ (.str _));simp[execOp,ho,ex,Instr.sliceAt,run_underlying hu,Instr.slice,hsz,hb,AK s l m hm];simp_all;rename_i e _ ht;have hu:=(E.C.ok ht).slice;split at h;simp_all;rename_i j hj;have hjs:=(E.C.ok hj).sizeOf w;split at h;simp_all;rename_i xs hxs;obtain⟨ad,c,hv,hcap,hne⟩:=(hx.elems hxs).mq;obtain⟨m,h,h2⟩:=pK hs h;obtain⟨l,⟨hl,hm,hall,s',rfl,h⟩,h1⟩:=pK hs h;have hb:=mK (P:=E.C.P) (w:=w) true xs.length c _ _ l m hl oO (lE h1) (lE h2);have hrun:(execOp a.eval o).run E.C.P w=.ok (.value (.slice (if c=l then ad else ad.map (·.add (l*j.size))) (m-l) (c-l))) w:=by simp[execOp,ho,hv,Instr.sliceAt,run_underlying hu,Instr.slice,hb,hjs]
 have hlen:((xs.take m).drop l).length=m-l:=by simp;omega
 refine Yields.same hrun h (.p _ _ ?_);by_cases hz:m-l=0;have :(xs.take m).drop l=[]:=bQ.1 oO;rw[this,hz];exact .TZ _ _;obtain⟨b,off,bM,cell,rfl,g1,g2⟩:=hne (by grind);have hpos:0<xs.length:=oO
 have Yx:bM=j.size:=(g1 0 _ (av hpos)).symm.trans (hall _ (aO hpos));have lU:¬c=l:=oO
 rw[af lU,<-hlen];simp only[eM,Addr.add_lit,<-Yx];refine dA.OJ oO (bM:=bM) (λi ys hys=>?_) (λi ys k y hys hy=>?_);grind;grind;rename_i len e _ ht;have hu:=(E.C.ok ht).array;split at h;simp_all;rename_i j hj;have hjs:=(E.C.ok hj).sizeOf w;split at h;rename_i xs;obtain⟨b,off,hv,hc⟩:=hx.plain.Cz;obtain⟨m,h,h2⟩:=pK hs h;obtain⟨l,⟨hl,hm,hj1,hxl,s',rfl,h⟩,h1⟩:=pK hs h;have hb:=mK (P:=E.C.P) (w:=w) false len len _ _ l m hl hm (lE h1) (lE h2);have hrun:(execOp a.eval o).run E.C.P w=.ok (.value (.slice (some (if len=l then⟨b,off,none⟩else(⟨b,off,none⟩:Addr).add (l*j.size))) (m-l) (len-l))) w:=by simp[execOp,ho,hv,Instr.sliceAt,Instr.sureAddr,run_underlying hu,hb,hjs]
 have hlen:(((xs.take m).drop l).map λx=>[x]).length=m-l:=by simp;omega
 refine Yields.same hrun h (.p _ _ ?_);by_cases hz:m-l=0;have :(((xs.take m).drop l).map λx=>[x])=[]:=bQ.1 oO;rw[this,hz];exact .TZ _ _;rw[af oO,<-hlen];simp only[Addr.add_lit,hj1];refine dA.OJ oO (bM:=1) (λi ys hys=>?_) (λi ys k y hys hy=>?_);grind;rw[aN]at hys;cases hq:((xs.take m).drop l)[i]?with
 |none=>simp_all
 |some q=>simp[hq]at hys;subst hys;match k,hy with|0,hy=>grind
 simp_all;simp_all
theorem yF (hs:bt E G S a w){b:Builtin}{args:Array Operand}{types:Array TypeId}(ho:o.op=.call ⟨.builtin b,args,types⟩)(h:jI E.C S.aI b (args.toList.map S.val) types.toList K):Yields E G a w o K:=by
 have hx:=λx=>aT.val hs x;obtain⟨args⟩:=args;obtain⟨types⟩:=types;simp only at h;unfold jI at h;split at h;split at h;rename_i x t hargs;cases args with
 |nil=>simp_all
 |cons y args=>
  cases args with
  |cons z args=>simp_all
  |nil=>
   simp only[bR,fW,nS,and_true]at hargs;have hy:=hx y;rw[hargs]at hy;split at h;simp_all;rename_i ht;have hu:=(E.C.ok ht).str;split at h;rename_i s;have ey:=hy.jP;have hsz:(⟨s.toArray⟩:ByteArray).size=s.length:=by simp[ByteArray.size]
   exact Yields.same (v:=.int .i64 s.length) (by simp[execOp,ho,resolve,invoke,builtin,ey,Builtin.len_,run_underlying hu,hsz,goInt]) h (.p _ _ (.int _ _));simp_all;rename_i e _ ht;have hu:=(E.C.ok ht).slice;split at h;rename_i ob T bM;split at h;rename_i cells hcells;obtain⟨n,hn,h⟩:=h;generalize hv:a.eval y=v at hy;cases hy with
   |gd _ _ _ n' c b h1 h2 h3 h4=>obtain⟨-,-,h5⟩:=hs.cz _ _ _ _ h1 h2;have h6:=h5 cells hcells;simp only at h6;obtain rfl:n=n':=ga h4 (hn.symm.trans h6);exact Yields.same (v:=.int .i64 n) (by simp[execOp,ho,resolve,invoke,builtin,hv,Builtin.len_,run_underlying hu,goInt]) h (.p _ _ (.int _ _))
   simp_all;rename_i ob bx T bM;split at h;rename_i cells hcells;obtain⟨n,hn,h⟩:=h;generalize hv:a.eval y=v at hy;cases hy with
   |uk _ _ _ _ n' c b off h1 h2 h0 h3 h4=>
    obtain⟨-,-,h5⟩:=hs.cz _ _ _ _ h1 h2;have h6:=h5 cells hcells;simp only at h6;have e:bx+n=n':=ga h4 (hn.symm.trans h6);obtain rfl:n=n'-bx:=oO
    exact Yields.same (v:=.int .i64 ((n'-bx:Nat):Int)) (by simp[execOp,ho,resolve,invoke,builtin,hv,Builtin.len_,run_underlying hu,goInt]) h (.p _ _ (.int _ _))
   simp_all;split at h;rename_i xs hxs;obtain⟨ad,c,hv,hcap,hne⟩:=(hy.elems hxs).mq;exact Yields.same (v:=.int .i64 xs.length) (by simp[execOp,ho,resolve,invoke,builtin,hv,Builtin.len_,run_underlying hu,goInt]) h (.p _ _ (.int _ _));simp_all;simp_all
 simp_all
 ·split at h
  ·rename_i k m k' n hargs;cases args with
   |nil=>simp_all
   |cons y args=>
    cases args with
    |nil=>simp_all
    |cons z args=>
     cases args with
     |cons z args=>simp_all
     |nil=>
      simp only[bR,fW,nS,and_true]at hargs;have hy:=hx y;have hz:=hx z;rw[hargs.1]at hy;rw[hargs.2]at hz;have ey:=hy.fo;have ez:=hz.fo;split at h;case h_2=>simp_all
      rename_i hk;obtain rfl:=rN hk;obtain⟨c,rfl,h⟩:=h;exact Yields.same (v:=.int k (if n<m then n else m)) (by simp[execOp,ho,resolve,invoke,builtin,ey,ez,Builtin.min_,Builtin.min2]) h (.p _ _ (.int _ _))
  simp_all
 ·split at h
  ·rename_i k m k' n hargs;cases args with
   |nil=>simp_all
   |cons y args=>
    cases args with
    |nil=>simp_all
    |cons z args=>
     cases args with
     |cons z args=>simp_all
     |nil=>
      simp only[bR,fW,nS,and_true]at hargs;have hy:=hx y;have hz:=hx z;rw[hargs.1]at hy;rw[hargs.2]at hz;have ey:=hy.fo;have ez:=hz.fo;split at h;case h_2=>simp_all
      rename_i hk;obtain rfl:=rN hk;obtain⟨c,rfl,h⟩:=h;exact Yields.same (v:=.int k (if n>m then n else m)) (by simp[execOp,ho,resolve,invoke,builtin,ey,ez,Builtin.max_,Builtin.max2]) h (.p _ _ (.int _ _))
  simp_all
 simp_all
end
section
variable {E:Env}{G:bf}{S:aj}{a:Act}{w:World}{o:Oper}{K:FV->Prop}
def yG (G:bf)(w:World)(cs:List Value)(xs:List FV):Prop:=cs.length=xs.length/\∀(i:Nat)(c:Value)(x:FV),cs[i]?=some c->xs[i]?=some x->aT G w c x
theorem eN (xs:List AV):aG xs=xs.map FV.p:=by
 induction xs with
 |nil=>rfl
 |cons x xs ih=>simp[aG,ih]
theorem qO {xs:List FV}:jG xs=true↔∀x,x∈xs->x.one=true:=by
 induction xs with
 |nil=>simp[jG]
 |cons x xs ih=>simp only[jG];grind
theorem qP {v:Value}{x:FV}(h:aT G w v x)(h1:jG x.cells=true):yG G w v.cells.toList x.cells/\(∀u,u∈v.cells.toList->u.oneCell'=true):=by
 have one:∀{cs:List Value}{xs:List FV},yG G w cs xs->jG xs=true->∀u,u∈cs->u.oneCell'=true:=λ{cs xs} hr ho u hu=>by
  obtain⟨i,hi⟩:=List.mem_iff_getElem?.1 hu;have hl:i<xs.length:=by rw[<-hr.1];exact(aJ.1 hi).1
  exact(hr.2 i u _ hi (av hl)).VH (qO.1 ho _ (aO hl))
 have single:∀{v:Value}{x:FV},aT G w v x->v.cells=#[v]->yG G w v.cells.toList [x]:=λ{v x} h hv=>by rw[hv];refine⟨rfl,λi c y hc hy=>?_⟩;grind
 have key:yG G w v.cells.toList x.cells:=by
  cases h with
  |p v x h=>
   cases h with
   |agg cs xs hl ho hc=>
    simp only[FV.cells,Value.cells,eN];refine⟨by grind,λi c y h2 h3=>?_⟩;rw[aN]at h3;cases hx:xs[i]?with
    |none=>simp_all
    |some z=>simp[hx]at h3;subst h3;exact .p _ _ (hc i c z oO hx)
   |eW cs xs hl hc=>simp[FV.cells,jG,FV.one,AV.one]at h1
   |_=>exact single (.p _ _ (by constructor<;>assumption)) rfl
  |agg cs xs hl hc=>exact⟨by simpa[Value.cells,FV.cells]using hl,λi c y h2 h3=>hc i c y (by simpa[Value.cells]using h2) h3⟩
  |eW cs xs hl hc=>simp[FV.cells,jG,FV.one]at h1
  |dR v=>simp[FV.cells,jG,FV.one]at h1
  |ptr o off b h=>exact single (.ptr o off b h) rfl
  |fM t T bM xs a c h3 h4=>exact single (.fM t T bM xs a c h3 h4) rfl
  |lX l k h=>exact single (.lX l k h) rfl
  |gd o T bM n c b q1 q2 q3 q4=>exact single (.gd o T bM n c b q1 q2 q3 q4) rfl
  |uk o x T bM n c b off q1 q2 q0 q3 q4=>exact single (.uk o x T bM n c b off q1 q2 q0 q3 q4) rfl
  |gD o base off b h=>exact single (.gD o base off b h) rfl
  |fG o b h=>exact single (.fG o b h) rfl
  |zR o b h=>exact single (.zR o b h) rfl
  |full xs a h=>exact single (.full xs a h) rfl
  |fn f fs cs first captured a b c d=>exact single (.fn f fs cs first captured a b c d) rfl
 grind
theorem KN {α:Type}{xs zs:List α}{n:Nat}{y:α}(h:JP xs n y=some zs):n<xs.length/\zs=xs.set n y:=by
 induction xs generalizing n zs with
 |nil=>simp[JP]at h
 |cons x xs ih=>
  cases n with
  |zero=>simp[JP]at h;grind
  |succ n=>simp only[JP]at h;grind
theorem rG {α:Type}{xs zs:List α}{n:Nat}{ys:List α}(h:gI xs n ys=some zs):zs.length=xs.length/\(ys≠[]->n+ys.length<=xs.length)/\∀(i:Nat),zs[i]?=if n<=i/\i<n+ys.length then ys[i-n]?else xs[i]?:=by
 induction ys generalizing xs n with
 |nil=>simp only[gI,bN]at h;grind
 |cons y ys ih=>simp only[gI]at h;split at h;rename_i us hu;obtain⟨h1,rfl⟩:=KN hu;obtain⟨h2,h3,h4⟩:=ih h;refine⟨by simp_all,λ_=>?_,λi=>?_⟩;grind;rw[h4 i];by_cases hi:i=n;subst hi;grind;by_cases hlt:n+1<=i/\i<n+1+ys.length;rw[ag hlt,ag (by grind)];grind;rw[af hlt,af (by grind),CI (eu hi)];simp_all
theorem HL (vs:List Value)(off:Nat):∀(k:Nat)(cs:Array Value),let r:=(vs.zipIdx k).foldl (λcs (c,j)=>cs.setIfInBounds (off+j) c) cs;r.size=cs.size/\∀i,i<cs.size->r[i]?=if off+k<=i/\i<off+k+vs.length then vs[i-(off+k)]?else cs[i]?:=by
 induction vs with
 |nil=>simp_all
 |cons v vs ih=>intro k cs;simp only[List.zipIdx_cons,fI];obtain⟨h1,h2⟩:=ih (k+1) (cs.setIfInBounds (off+k) v);refine⟨by simp_all,λi hi=>?_⟩;rw[h2 i (by simp_all)];by_cases he:i=off+k;grind;by_cases hlt:off+(k+1)<=i/\i<off+(k+1)+vs.length;grind;grind
theorem OU {place:Nat->Option (Nat×Nat)}{cells:Array Value}{i off size:Nat}{v:Value}{rest:List (Nat×Value)}(hp:place i=some (off,size))(hs:v.cells.size=size)(hb:off+size<=cells.size):Instr.fill place cells ((i,v)::rest)=Instr.fill place (v.cells.zipIdx.foldl (λcs (c,j)=>cs.setIfInBounds (off+j) c) cells) rest:=by
 have hne:¬(v.cells.size≠size\/off+v.cells.size>cells.size):=by rw[hs];omega
 simp only[Instr.fill,hp];grind
theorem KO {cells:Array Value}{xs zs:List FV}{off:Nat}{v:Value}{x:FV}(hr:yG G w cells.toList xs)(hv:aT G w v x)(h1:jG x.cells=true)(Bk:gI xs off x.cells=some zs)(hne:v.cells.size=0->off<=cells.size):off+v.cells.size<=cells.size/\yG G w (v.cells.zipIdx.foldl (λcs (c,j)=>cs.setIfInBounds (off+j) c) cells).toList zs:=by
 obtain⟨OV,hco⟩:=qP hv h1;obtain⟨g1,g2,g3⟩:=rG Bk;have hlen:v.cells.size=x.cells.length:=by rw[<-OV.1];simp
 have hsz:cells.size=xs.length:=by rw[<-hr.1];simp
 have hb:off+v.cells.size<=cells.size:=by by_cases h0:x.cells=[];simp_all;simp_all
 refine⟨hb,?_⟩;have hf:=HL v.cells.toList off 0 cells;have he:v.cells.zipIdx.foldl (λcs (c,j)=>cs.setIfInBounds (off+j) c) cells=(v.cells.toList.zipIdx 0).foldl (λcs (c,j)=>cs.setIfInBounds (off+j) c) cells:=by rw[<-Array.foldl_toList,Array.toList_zipIdx]
 rw[he];obtain⟨f1,f2⟩:=hf;refine⟨by simp_all,λi c y hc hy=>?_⟩;have hi:i<cells.size:=by have :=(aJ.1 hy).1;omega
 rw[g3 i]at hy;rw[sH,f2 i hi]at hc;simp only[wC]at hc;by_cases hin:off<=i/\i<off+x.cells.length;rw[ag hin]at hy;rw[ag (by simp_all)]at hc;exact OV.2 _ _ _ hc hy;rw[af hin]at hy;rw[af (by simp_all)]at hc;exact hr.2 i c y (by simp_all) hy
theorem pL (zs:List Value):yG G w zs (zs.map FV.gv):=⟨by simp,λi c x hc hx=>by rw[aN,hc]at hx;simp only[eM,bN]at hx;subst hx;exact uC _ _ _⟩
theorem Gm (hs:bt E G S a w){fs:List (Nat×TypeId)}{gs:Array Field}(hfs:fs=gs.toList.map λf=>(f.offset,f.type)):∀(parts:List (Nat×Operand))(cells:Array Value)(xs zs:List FV),yG G w cells.toList xs->nw fs E.C.iZ S parts xs=some zs->∃cs,Instr.fill ((gs.map λf=>(f.offset,E.C.P.cellsOf f.type))[·]?) cells (parts.map λ(i,x)=>(i,a.eval x))=some cs/\yG G w cs.toList zs:=by
 intro parts;induction parts with
 |nil=>intro cells xs zs hr h;simp only[nw,bN]at h;exact⟨cells,rfl,h▸hr⟩
 |cons p parts ih=>
  obtain⟨i,x⟩:=p;intro cells xs zs hr h;simp only[nw]at h;split at h;grind;rename_i off t r hd;split at h;grind;rename_i j hj;split at h;rename_i hz hlen h1;split at h;grind;rename_i us hu;have hv:=aT.val hs x;have hlen':(S.val x).cells.length=j.size:=aM hlen;have hgi:gs.toList[i]?.map (λf=>(f.offset,f.type))=some (off,t):=by have :=mo hd;rwa[hfs,aN]at this
  obtain⟨inf,z,CK,hsz,-⟩:=(E.C.ok hj).info';have hcs:E.C.P.cellsOf t=j.size:=by simp[Program.cellsOf,CK,hsz]
  have hp:(gs.map λf=>(f.offset,E.C.P.cellsOf f.type))[i]?=some (off,j.size):=by
   rw[Array.getElem?_map];cases hg:gs[i]?with
   |none=>simp_all
   |some g=>simp_all
  have OV:=(qP hv h1).1;have hvs:(a.eval x).cells.size=j.size:=by rw[<-hlen',<-OV.1];simp
  have h0:j.size≠0:=bD hz;obtain⟨hb,hr'⟩:=KO hr hv h1 hu (λe=>oO);obtain⟨cs,h3,h4⟩:=ih _ _ _ hr' h;refine⟨cs,?_,h4⟩;rw[bR,OU hp hvs oO];omega;simp_all
theorem si (hs:bt E G S a w){size:Nat}:∀(parts:List (Nat×Operand))(cells:Array Value)(xs zs:List FV),yG G w cells.toList xs->fP size S parts xs=some zs->∃cs,Instr.fill (λi=>some (i*size,size)) cells (parts.map λ(i,x)=>(i,a.eval x))=some cs/\yG G w cs.toList zs:=by
 intro parts;induction parts with
 |nil=>intro cells xs zs hr h;simp only[fP,bN]at h;exact⟨cells,rfl,h▸hr⟩
 |cons p parts ih=>
  obtain⟨i,x⟩:=p;intro cells xs zs hr h;simp only[fP]at h;split at h;rename_i hz hlen h1;split at h;grind;rename_i us hu;have hv:=aT.val hs x;have hlen':(S.val x).cells.length=size:=aM hlen;have OV:=(qP hv h1).1;have hvs:(a.eval x).cells.size=size:=by rw[<-hlen',<-OV.1];simp
  have h0:size≠0:=bD hz;obtain⟨hb,hr'⟩:=KO hr hv h1 hu (λe=>oO);obtain⟨cs,h3,h4⟩:=ih _ _ _ hr' h;refine⟨cs,?_,h4⟩;rw[bR,OU rfl hvs oO];omega;simp_all
theorem fN.zeroV {P:Program}{t:TypeId}{i:jF}(h:fN P t i)(w:World):∃z,(zeroValue t).run P w=.ok z w/\z.cells.toList=i.zero:=by obtain⟨inf,z,h1,-,-,h2,h3⟩:=h.info';exact⟨z,by simp[zeroValue,run_typeInfo w h1,h2],h3⟩
theorem JW (C:Ctx){fs:List (Nat×TypeId)}{ps:List (Nat×Nat)}(h:placesOf C.iZ fs=some ps):∀(gs:List Field),fs=gs.map (λf=>(f.offset,f.type))->gs.mapM (λf=>(C.P.info? f.type).map λi=>(f.offset,i.size))=some ps/\ps=gs.map λf=>(f.offset,C.P.cellsOf f.type):=by
 induction fs generalizing ps with
 |nil=>intro gs hg;simp only[placesOf,bN]at h;simp_all
 |cons p fs ih=>
  obtain⟨o,t⟩:=p;intro gs hg;cases gs with
  |nil=>simp_all
  |cons g gs=>simp only[bR,nS,Prod.mk.injEq]at hg;obtain⟨⟨rfl,rfl⟩,hg⟩:=hg;simp only[placesOf]at h;split at h;grind;rename_i j hj;split at h;grind;rename_i qs hqs;obtain rfl:=au h;obtain⟨h1,h2⟩:=ih hqs gs hg;obtain⟨inf,z,CK,hsz,-⟩:=(C.ok hj).info';simp only[List.mapM_cons,CK,eM,h1];simp[hsz,h2,Program.cellsOf,CK]
theorem MB (hs:bt E G S a w){t:TypeId}{parts:Array (Nat×Operand)}(ho:o.op=.build t parts)(h:Gz E.C S t parts.toList K):Yields E G a w o K:=by
 unfold Gz at h;split at h;rename_i fs zero ht;have hok:=E.C.ok ht;obtain⟨gs,hu,hfs⟩:=hok.struct;obtain⟨inf,z,CK,-,-,hz,Cf⟩:=hok.info';split at h;simp_all;rename_i ps hps;split at h;rename_i cs hcs;rw[jX]at h;obtain⟨p1,p2⟩:=JW E.C hps gs.toList hfs;obtain⟨us,h3,h4⟩:=Gm hs hfs parts.toList z.cells _ _ (Cf▸pL _) hcs;have hb:E.C.P.built t (parts.toList.map λ(i,x)=>(i,a.eval x))=some us:=by unfold Program.built;simp only[CK,hu,hz,p1];rw[p2];simpa using h3
 have hrun:=run_build (P:=E.C.P) w t (parts.map λ(i,x)=>(i,a.eval x)) us (by simp_all);exact Yields.same (by simp only[execOp,ho,Sem.run_bind,hrun,Result.andThen_ok];rfl) h (by simpa using aT.agg us.toList cs h4.1 h4.2);simp_all;rename_i n e zero ht;have hok:=E.C.ok ht;have hu:=hok.array;obtain⟨inf,z,CK,-,-,hz,Cf⟩:=hok.info';split at h;simp_all;rename_i j hj;obtain⟨ams,z',Uj,ajO,-⟩:=(E.C.ok hj).info';split at h;rename_i cs hcs;rw[jX]at h;obtain⟨us,h3,h4⟩:=si hs parts.toList z.cells _ _ (Cf▸pL _) hcs;have hb:E.C.P.built t (parts.toList.map λ(i,x)=>(i,a.eval x))=some us:=by unfold Program.built;simp only[CK,hu,hz,Uj,ajO];exact h3
 have hrun:=run_build (P:=E.C.P) w t (parts.map λ(i,x)=>(i,a.eval x)) us (by simp_all);exact Yields.same (by simp only[execOp,ho,Sem.run_bind,hrun,Result.andThen_ok];rfl) h (by simpa using aT.agg us.toList cs h4.1 h4.2);simp_all;simp_all
theorem lF {α:Type}(xs:List α)(n:Nat):(kZ n xs).length=n*xs.length/\∀i,i<n*xs.length->(kZ n xs)[i]?=xs[i%xs.length]?:=by
 induction n with
 |zero=>simp[kZ]
 |succ n ih=>refine⟨by simp[kZ,ih.1,bw,nQ],λi hi=>?_⟩;simp only[kZ];by_cases h:i<xs.length;rw[cG h,mu h];rw[dH oO,ih.2 _ (by grind)];congr 1;exact(Nat.mod_eq_sub_mod oO).symm
theorem HM {α β:Type}(f:α->β)(xs:List α)(n:Nat):kZ n (xs.map f)=(kZ n xs).map f:=by
 induction n with
 |zero=>rfl
 |succ n ih=>simp[kZ,ih]
theorem VJ {α:Type}(size:Nat):∀(n:Nat)(xs:List α),(chunk size n xs).length=n/\∀i zs,(chunk size n xs)[i]?=some zs->zs=(xs.drop (i*size)).take size:=by
 intro n;induction n with
 |zero=>intro xs;simp[chunk]
 |succ n ih=>
  intro xs;obtain⟨h1,h2⟩:=ih (xs.drop size);refine⟨by simp[chunk,h1],λi zs h=>?_⟩;cases i with
  |zero=>simp[chunk]at h;grind
  |succ i=>simp only[chunk,nT]at h;rw[h2 i zs h,wE,bw,kn,nQ]
theorem Yy {x:FV}{y:AV}(h:x.one=true)(hy:x.eG=some y):y.one=true:=by
 cases x with
 |p z=>simp only[FV.eG,bN]at hy;subst hy;exact h
 |agg xs=>simp[FV.one]at h
 |eW xs=>simp[FV.one]at h
 |ptr o off=>simp[FV.eG]at hy
 |fM t T e xs=>simp only[FV.eG,bN]at hy;subst hy;rfl
 |lX l=>simp[FV.eG]at hy
 |gd o T e=>simp[FV.eG]at hy
 |uk o x T e=>simp[FV.eG]at hy
 |gD o b off=>simp[FV.eG]at hy
 |fG o=>simp[FV.eG]at hy
 |zR o=>simp[FV.eG]at hy
 |full xs=>simp only[FV.eG,bN]at hy;subst hy;rfl
 |fn f a b=>simp only[FV.eG]at hy;split at hy;split at hy;obtain rfl:=au hy;rfl;simp_all;simp_all
 |dR=>simp[FV.one]at h
theorem xO (hs:bt E G S a w){t:TypeId}{len:Nat}{parts:Array (Nat×Operand)}(ho:o.op=.buildSlice t len parts)(h:mh E.C S t len parts.toList K):∃(xs:List (List AV)) (us:Array Value) (e:TypeId) (j:jF),(∃a b z,bO E.C.iZ t=some ⟨a,b,.slice e,z⟩)/\bO E.C.iZ e=some j/\K (.full xs)/\(execOp a.eval o).run E.C.P w=.ok (.value (.slice (some ⟨w.heap.size,0,none⟩) xs.length xs.length)) (w.alloc (.cells us e))/\(∀zs,zs∈xs->zs.length=j.size)/\dA (λb o=>G.bk b o\/(w.heap.size<=b/\b<(w.alloc (.cells us e)).heap.size/\o<xs.length*j.size)) (w.alloc (.cells us e)) (.slice (some ⟨w.heap.size,0,none⟩) xs.length xs.length) (.sl xs):=by
 unfold mh at h;split at h;rename_i e _ ht;have hu:=(E.C.ok ht).slice;split at h;simp_all;rename_i j hj;have hok:=E.C.ok hj;split at h;simp_all;rename_i hle;have hle':len*j.size<=1000000:=gZ hle;split at h;rename_i cs hcs;split at h;simp_all;rename_i h1;split at h;rename_i ys hys;obtain⟨z,hzr,Cf⟩:=hok.zeroV w;have ajQ:z.cells.size=j.size:=by rw[<-jg,Cf,hok.len]
 have hbase:∀zz:Array Value,(len*j.size=0\/zz=z.cells)->((Array.range (len*j.size)).map (zz[·%zz.size]!)).toList=kZ len j.zero:=λzz hzz=>by obtain⟨r1,r2⟩:=lF j.zero len;rw[hok.len]at r1 r2;apply fZ;grind
 have hrl:∀zz:Array Value,(len*j.size=0\/zz=z.cells)->yG G w ((Array.range (len*j.size)).map (zz[·%zz.size]!)).toList (kZ len (j.zero.map FV.gv)):=λzz hzz=>by rw[hbase zz hzz,HM];exact pL _
 obtain⟨us,Yz,oC⟩:∃us,(∀zz:Array Value,(len*j.size=0\/zz=z.cells)->Instr.fill (λi=>some (i*j.size,j.size)) ((Array.range (len*j.size)).map (zz[·%zz.size]!)) (parts.toList.map λ(i,x)=>(i,a.eval x))=some us)/\yG G w us.toList cs:=by obtain⟨us,h3,h4⟩:=si hs parts.toList _ _ _ (hrl z.cells (.inr rfl)) hcs;grind
 have YA:¬len*j.size>2^24:=oO
 have hrun:(execOp a.eval o).run E.C.P w=.ok (.value (.slice (some ⟨w.heap.size,0,none⟩) len len)) (w.alloc (.cells us e)):=by
  by_cases h0:len*j.size=0;have h5:=Yz #[] (.inl h0);have h5':Instr.fill (λi=>some (i*j.size,j.size)) #[] (List.map (λx=>(x.1,a.eval x.2)) parts.toList)=some us:=by
   have h6:(Array.range (len*j.size)).map ((#[]:Array Value)[·%(#[]:Array Value).size]!)=#[]:=by rw[h0];simp
   rw[h6]at h5;exact h5
  have hm0:∀f:Nat->Value,(Array.range 0).map f=#[]:=λf=>by simp
  simp only[execOp,ho,Instr.buildSlice,Sem.run_bind,run_underlying hu,Result.andThen_ok,hok.sizeOf,YA,if_false,h0,if_true,Sem.run_pure,nU];simp only[show¬(0>2^24)from oO,if_false,Sem.run_pure,Result.andThen_ok,hm0,h5'];rfl;have h5:=Yz z.cells (.inr rfl);simp only[execOp,ho,Instr.buildSlice,Sem.run_bind,run_underlying hu,Result.andThen_ok,hok.sizeOf,YA,if_false,h0,Sem.run_pure,hzr,nU];simp only[h5];rfl
 obtain⟨y1,y2⟩:=FV.iC hys;have hlen:us.size=len*j.size:=by
  have h6:us.size=cs.length:=by rw[<-oC.1];simp
  have h7:∀(parts:List (Nat×Operand))(xs zs:List FV),fP j.size S parts xs=some zs->zs.length=xs.length:=by
   intro parts;induction parts with
   |nil=>intro xs zs h;simp only[fP,bN]at h;rw[h]
   |cons p parts ih=>obtain⟨i,x⟩:=p;intro xs zs h;simp only[fP]at h;split at h;split at h;grind;rename_i us Yz;rw[ih _ _ h,(rG Yz).1];simp_all
  rw[h6,h7 _ _ _ hcs,(lF _ _).1];simp[hok.len]
 have hal:Below w.heap.size w (w.alloc (.cells us e)):=(Below.refl _ _).alloc (aA _) _;obtain⟨c1,c2⟩:=VJ j.size len ys;have hcell:∀i,(w.alloc (.cells us e)).cell? ⟨w.heap.size,i,none⟩=us[i]?:=λi=>World.cell?_alloc_new w us e i;have ahu:∀(i:Nat)(zs:List AV),(chunk j.size len ys)[i]?=some zs->zs.length=j.size:=λi zs hzs=>by
  have hi:i<len:=by rw[<-c1];exact(aJ.1 hzs).1
  rw[c2 i zs hzs,aL,cQ,y1,<-oC.1,jg,hlen];have :(i+1)*j.size<=len*j.size:=ew _ hi;grind
 have amt:dA (λb o=>G.bk b o\/(w.heap.size<=b/\b<(w.alloc (.cells us e)).heap.size/\o<len*j.size)) (w.alloc (.cells us e)) (.slice (some ⟨w.heap.size,0,none⟩) (chunk j.size len ys).length len) (.sl (chunk j.size len ys)):=by
  refine dA.OJ (bM:=j.size) oO ahu (λi zs k y hzs hy=>?_);have hi:i<len:=by rw[<-c1];exact(aJ.1 hzs).1
  have hk:k<j.size:=by have h8:=(aJ.1 hy).1;rw[c2 i zs hzs,aL]at h8;omega
  rw[c2 i zs hzs,CL hk,gY]at hy;obtain⟨x,hx,hxy⟩:=y2 _ _ hy;have hlt:i*j.size+k<us.size:=by have h9:=(aJ.1 hx).1;rw[<-jg,oC.1];exact h9
  have hr:=oC.2 (i*j.size+k) us[i*j.size+k] x (by simp_all) hx;have hxo:=qO.1 h1 x (bU hx);refine⟨us[i*j.size+k],Yy hxo hxy,?_,.inr ⟨aA _,by simp,oO⟩,?_⟩;simp_all;refine(hr.eG hxy).keep (λb o hi=>.inl hi) (λb o c hi hc=>?_) (Ct _ _ _);rw[World.cell?_alloc_lt _ _ _ (hs.fh b o hi)];omega
 refine⟨chunk j.size len ys,us,e,j,⟨_,_,_,ht⟩,hj,h,by simp_all,λzs hz=>?_,by simp_all⟩;obtain⟨q,hq⟩:=iK hz;grind;simp_all;simp_all;simp_all
theorem CM (hs:bt E G S a w){t:TypeId}{len:Nat}{parts:Array (Nat×Operand)}(ho:o.op=.buildSlice t len parts)(h:mh E.C S t len parts.toList K):Yields E G a w o K:=by obtain⟨xs,us,e,j,-,-,hK,hrun,-,hr⟩:=xO hs ho h;exact⟨_,_,_,hrun,hK,(Below.refl _ _).alloc (aA _) _,.full xs _ (hr.keep (λb o h=>h.imp id λh=>⟨h.1,h.2.1⟩) (λ_ _ _ _ h=>h) (.refl _ _))⟩
end
theorem fN.map {P:Program}{t k e:TypeId}{a b:Nat}{z:List Value}(h:fN P t ⟨a,b,.map k e,z⟩):P.underlying t=some (.map k e):=by obtain⟨d,h1,h2⟩:=h.yC;cases d<;>simp[shapeOf]at h2;simp_all
theorem nV {α:Type}(l:List (AV×α)):gF l=l.map (·.1):=by
 induction l with
 |nil=>rfl
 |cons p l ih=>obtain⟨k,x⟩:=p;simp[gF,ih]
theorem zZ {α:Type}(l:List (AV×α)):tJ l=l.map (·.2):=by
 induction l with
 |nil=>rfl
 |cons p l ih=>obtain⟨k,x⟩:=p;simp[tJ,ih]
theorem YB {α:Type}{ks:List AV}{xs:List α}(h:ks.length=xs.length):(pT ks xs).length=ks.length/\∀(i:Nat)(p:AV×α),(pT ks xs)[i]?=some p->ks[i]?=some p.1/\xs[i]?=some p.2:=by
 induction ks generalizing xs with
 |nil=>cases xs<;>simp_all[pT]
 |cons k ks ih=>
  cases xs with
  |nil=>grind
  |cons x xs=>
   obtain⟨h1,h2⟩:=ih (by simpa using h);refine⟨by simp[pT,h1],λi p hp=>?_⟩;cases i with
   |zero=>simp[pT]at hp;grind
   |succ i=>simp[pT]at hp;grind
theorem CN {α:Type}(k:AV)(l:List (AV×α)):sw k l=(iy k (gF l)).bind λj=>(l[j]?).map (·.2):=by
 induction l with
 |nil=>rfl
 |cons p l ih=>
  obtain⟨k',x⟩:=p;simp only[sw,gF,iy];cases hs:nt k k' with
  |true=>simp
  |false=>
   simp only[ih];cases iy k (gF l)with
   |none=>rfl
   |some j=>simp
section
variable {E:Env}{G:bf}{S:aj}{a:Act}{w:World}{o:Oper}{K:FV->Prop}
theorem OW (hs:bt E G S a w){v:Value}{x:FV}{l:List (AV×FV)}(hx:aT G w v x)(h:x.entries S.maps=some l):∃es:List MapEntry,((v=.map none/\es=[])\/∃b gu,v=.map (some b)/\w.heap[b]?=some (.map es.toArray gu))/\es.length=l.length/\∀(i:Nat)(e:MapEntry)(p:AV×FV),es[i]?=some e->l[i]?=some p->dA G.bk w e.key p.1/\aT G w e.val p.2:=by
 cases x with
 |fG ob=>
  cases hx with
  |fG _ b hb=>obtain⟨b',gu,es,h1,h2,h3,h4,h5⟩:=hs.ext'.mps.at_ ob l h;grind
 |p y=>
  cases hx with
  |p _ _ hx=>
   cases hx with
   |vU=>simp only[FV.entries,bN]at h;simp_all
   |mp b gu es ks vs h1 h2 h3 h4 h5 h6 h7=>
    simp only[FV.entries,bN]at h;subst h;obtain⟨z1,z2⟩:=YB (ks:=ks) (xs:=aG vs) (by rw[eN,ah];omega);refine⟨es,.inr ⟨b,gu,rfl,h4⟩,oO,λi e p he hp=>?_⟩;obtain⟨q1,q2⟩:=z2 i p hp;refine⟨h6 i e _ he q1,?_⟩;rw[eN,aN]at q2;cases hv:vs[i]?with
    |none=>simp_all
    |some y=>simp only[hv,eM,bN]at q2;rw[<-q2];exact .p _ _ (h7 i e y he hv)
   |_=>simp[FV.entries]at h
 |_=>simp[FV.entries]at h
theorem MC {l:List (AV×FV)}{es:List MapEntry}{agg:Bool}{L:List gJ}{bk:Nat->Nat->Prop}(hl:es.length=l.length)(hr:∀(i:Nat)(e:MapEntry)(p:AV×FV),es[i]?=some e->l[i]?=some p->dA bk w e.key p.1)(hf:∀p,p∈l->gL agg L p.1=true):sF agg L es (gF l):=by
 refine⟨by rw[nV,ah];omega,λi e x he hx=>?_⟩;rw[nV,aN]at hx;cases hp:l[i]?with
 |none=>simp_all
 |some p=>simp only[hp,eM,bN]at hx;subst hx;have :=hf p (bU hp);exact⟨tC (hr i e p he hp) this,this⟩
theorem HN {P:Program}{w:World}{e:TypeId}{z:Value}(h:(P.info? e).map (·.zero)=some (some z)):(zeroValue e).run P w=.ok z w:=by
 cases hi:P.info? e with
 |none=>simp_all
 |some i=>simp only[hi,eM,bN]at h;simp[zeroValue,run_typeInfo w hi,h]
theorem Uk {ok:Bool}{v:Value}{x:FV}(h:aT G w v x)(b:Bool):aT G w (if ok then .tuple #[v,.bool b]else v) (okV ok x b):=by
 cases ok with
 |false=>exact h
 |true=>
  refine .eW [v,.bool b] [x,.p (.bool b)] rfl λi c y h1 h2=>?_;match i,h1,h2 with
   |0,h1,h2=>simp_all
   |1,h1,h2=>cases h1;cases h2;exact .p _ _ (.bool b)
theorem JX (hs:bt E G S a w){t:TypeId}{x i:Operand}{ok:Bool}(ho:o.op=.lookup t x i ok)(h:Ht E.C S.maps t (S.val x) (S.val i) ok K):Yields E G a w o K:=by
 have hx:=aT.val hs x;have hi:=aT.val hs i;unfold Ht at h;split at h;rename_i kT eT _ ht;have hu:=(E.C.ok ht).map;split at h;rename_i ki kk l hki hkk hl;obtain⟨L,hL,hk,hall,r,hr,h⟩:=h;have hagg:=(E.C.ok hki).gU;rw[<-hagg]at hk hall;have hkey:=tC (hi.eG hkk) hk;obtain⟨es,hv,hlen,hent⟩:=OW hs hx hl;have hka:=MC (w:=w) hlen (λi e p a b=>(hent i e p a b).1) hall;have MD:=λem=>(sE (P:=E.C.P) (em:=em) 40).1 kT L 10000 w kk.cells dD hL (lZ hk);have hfind:=wq (w:=w) dD hL hk hka;rw[CN]at hr;have hrun:∀res:Option (Nat×Value),found es 0 (iy kk (gF l))=res->∀v,(match res with|some (_,v')=>v=(if ok then .tuple #[v',.bool true]else v')|none=>∃z,(E.C.P.info? eT).map (·.zero)=some (some z)/\v=(if ok then .tuple #[z,.bool false]else z))->(Instr.lookup t (a.eval x) (a.eval i) ok).run E.C.P w=.ok v w:=by
  intro res hres v hvv;rw[hres]at hfind;rw[hkey];rcases hv with⟨e1,rfl⟩|⟨b,gu,e1,e2⟩;rw[e1];cases res with
  |none=>obtain⟨z,hz,rfl⟩:=hvv;simp[Instr.lookup,run_underlying hu,MD,hfind,HN hz]
  |some q=>simp[found]at hres
  rw[e1];have hg:(Go.getObj b).run E.C.P w=.ok (.map es.toArray gu) w:=by simp[Go.getObj,Sem.run,e2]
  cases res with
  |none=>obtain⟨z,hz,rfl⟩:=hvv;simp[Instr.lookup,run_underlying hu,hg,MD,hfind,HN hz]
  |some q=>obtain⟨j,v'⟩:=q;subst hvv;simp[Instr.lookup,run_underlying hu,hg,MD,hfind]
 cases fF:iy kk (gF l)with
 |none=>rw[fF]at hr;simp only[Option.bind_none]at hr;subst hr;obtain⟨z,hz,hK⟩:=h;have :=hrun none (by rw[fF];rfl) _ ⟨z,hz,rfl⟩;exact Yields.same (by simp[execOp,ho,this]) hK (Uk (HC _ _ _) false)
 |some j=>
  rw[fF]at hr;have hj:j<(gF l).length:=by
   have :∀(ks:List AV)(j:Nat),iy kk ks=some j->j<ks.length:=by
    intro ks;induction ks with
    |nil=>intro j h;simp[iy]at h
    |cons x ks ih=>
     intro j h;simp only[iy]at h;split at h;grind;cases hq:iy kk ks with
     |none=>simp_all
     |some m=>grind
   exact this _ _ fF
  rw[nV,ah]at hj;have XU:j<es.length:=oO
  simp only[nW,av hj,eM]at hr;subst hr;have :=hrun (some (j,es[j].val)) (by rw[fF];simp[found,XU]) _ rfl;exact Yields.same (by simp[execOp,ho,this]) h (Uk (hent j _ _ (av XU) (av hj)).2 true)
 simp_all;simp_all
end
end Qv
