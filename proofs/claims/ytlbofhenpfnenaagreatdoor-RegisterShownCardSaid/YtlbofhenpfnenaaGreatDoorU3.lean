/- Part 3 of the proof: its lemmas. No condition. -/
import Derived.Test.YtlbofhenpfnenaaGreatDoorU2
import Derived.RangeFuncNested
import Derived.RangeFuncCalls
import Derived.RangeFuncLeaves
import Derived.RangeFuncBound
import Derived.TacticsIn
import Derived.OrdersIn
import Derived.ChangeKeysEq
import Derived.Laws.StructEq
import Derived.MapKept
set_option maxRecDepth 10000
set_option maxHeartbeats 80000000
set_option linter.all false
namespace Qv
open Go Go.RowKit
structure Kept (own:List Nat)(w w':World):Prop where
 os:w'.os=w.os
 tape:w'.tape=w.tape
 output:w'.output=w.output
 size:w.heap.size<=w'.heap.size
 block:∀k,k<w.heap.size->k∉own->w'.heap[k]?=w.heap[k]?
 shape:∀k cs T fr,own=[k]->w.heap[k]?=some (.cells cs T fr)->∃cs',w'.heap[k]?=some (.cells cs' T fr)/\cs'.size=cs.size
structure Env where
 C:Ctx
 w0:World
 BF:Nat->Nat->Prop
 hJ:C.J w0
 hn:C.oG<=w0.heap.size
 mD:Option Nat
 bG:List (Array Value)
 loops:List (Nat×Loop)
 fixed:List Nat
 own:List Nat:=[]
 hown:∀b,b∈own->C.oG<=b/\b<w0.heap.size/\∀o,¬BF b o:=by intro _ h;cases h
def Env.mine (E:Env)(o b:Nat):Prop:=(E.w0.heap.size<=b/\(o=999999->E.own=[]))\/(o=999999/\∃r,E.own=b::r)
theorem Env.CC {E:Env}{b:Nat}(h:∃r,E.own=b::r):b∈E.own:=by grind
theorem jh {l:List (Nat×List FV)}{d:Nat}{cs:List FV}(h:Ba l d=some cs):d≠999999/\Qv.getObj l d=some cs:=by unfold Ba at h;split at h;grind;rename_i hb;exact⟨bt hb,h⟩
theorem Env.PU {E:Env}{o b:Nat}(h:E.mine o b)(ho:o≠999999):E.w0.heap.size<=b:=by rcases h with h|h;omega;omega
theorem Env.VG {E:Env}{o b k:Nat}(h:E.mine o b)(hk:k<E.w0.heap.size)(hk':k∉E.own):k≠b:=by rintro rfl;rcases h with h|h;omega;grind
theorem Env.ZS {E:Env}{b c:Nat}(h:E.mine 999999 b)(ho:E.own=[c]):b=c:=by rcases h with h|h;simp_all;simp_all
def yN.of (r:Loop):yN->Loop|.ready=>{r with state:=.ready,pending:=none}|.busy=>{r with state:=.busy,pending:=none}|.Nd=>{r with state:=.done,pending:=some .ret}|.HP id=>{r with state:=.done,pending:=some (.exit id)}
abbrev mark (r:Nat):Deferred:={target:=.collected r,args:=#[]}
def adQ (aZ:Nat->Nat->Prop)(w:World)(es:List MapEntry)(l:List (AV×AV)):Prop:=es.length=l.length/\∀(i:Nat)(e:MapEntry)(p:AV×AV),es[i]?=some e->l[i]?=some p->dh aZ w e.key p.1/\dh aZ w e.val p.2
def aim (es:List MapEntry)(seen:Array Nat):List MapEntry:=es.filter λe=>!seen.contains e.born
def adS (aZ:Nat->Nat->Prop)(w:World)(r:Nat)(x:Option (AV×AV)×List (AV×AV)):Prop:=(x=(none,[])/\w.heap[r]?=some (.mapIter none 0 #[] 0))\/∃(m fW:Nat) (es:List MapEntry) (seen:Array Nat),w.heap[r]?=some (.mapIter (some m) fW seen fW)/\w.heap[m]?=some (.map es.toArray fW)/\aZ m 0/\nL es fW/\adQ aZ w (aim es seen) x.2/\∀p,x.1=some p->∃(e:MapEntry) (ain:Array Nat),e∈es/\seen=ain.push e.born/\dh aZ w e.key p.1/\dh aZ w e.val p.2
def adT:Nm->Nat×Nat->Prop|.inl _,_=>True|.inr _,fr=>fr=(0,0)
def EO (G:aV)(T:TypeId)(z o:Nat)(e:MapEntry):Prop:=∃(a:Option Addr) (n c:Nat),e.val=.slice a n c/\((n=0/\c=0)\/∃b off,(a=some ⟨b,off,none⟩/\off=0)/\G.tail (.inr (o,e.born))=some (b,off+n*z,off+c*z,T))
structure Zt (E:Env)(G:aV)(S:ai)(w:World):Prop where
 at_:∀o l,getM S.maps o=some l->∃(b fW:Nat) (es:List MapEntry),G.mp o=some b/\w.heap[b]?=some (.map es.toArray fW)/\nL es fW/\es.length=l.length/\∀(i:Nat)(e:MapEntry)(p:AV×FV),es[i]?=some e->l[i]?=some p->dh G.aZ w e.key p.1/\aT G w e.val p.2
 loc:∀o b,G.mp o=some b->E.w0.heap.size<=b/\(∀i,¬G.aZ b i)/\∃es fW,w.heap[b]?=some (.map es fW)
 inj:∀o o' b,G.mp o=some b->G.mp o'=some b->o=o'
 iM:∀q x,getM S.iM q=some x->∃r,G.it q=some r/\adS G.aZ w r x
 zi:∀q r,G.it q=some r->E.w0.heap.size<=r/\∃m s seen c,w.heap[r]?=some (.mapIter m s seen c)
 zj:∀q q' r,G.it q=some r->G.it q'=some r->q=q'
 apart:∀o o' b,G.mp o=some b->G.loc o'≠some b
 room:∀(o:Nat)(T:TypeId)(z:Nat)(k:Option AV)(l:List (AV×FV))(b fW:Nat)(es:List MapEntry),getM S.maps o=some l->getM E.C.ex.KF o=some (T,z,k)->G.mp o=some b->w.heap[b]?=some (.map es.toArray fW)->∀(i:Nat)(e:MapEntry)(p:AV×FV),es[i]?=some e->l[i]?=some p->k≠some p.1->EO G T z o e
structure Ext (E:Env)(G:aV)(S:ai)(a:Act)(w:World):Prop where
 mps:Zt E G S w
 kZ:S.bG.length=E.bG.length
 bG:∀(i:Nat)(vals:Array Value)(fr:Fr),E.bG[i]?=some vals->S.bG[i]?=some fr->vals.size=fr.n/\∀j,j<fr.n->aT G w (vals.getD j undef) (fr.tmps j)
 kj:S.bZ.length=E.loops.length
 loops:∀(i k:Nat)(r:Loop)(st:yN),E.loops[i]?=some (k,r)->S.bZ[i]?=some st->E.w0.heap.size<=k/\w.heap[k]?=some (.loop (st.of r))
 lp:∀(i j k:Nat)(r r':Loop),E.loops[i]?=some (k,r)->E.loops[j]?=some (k,r')->i=j
 yl:∀(i k:Nat)(r:Loop),E.loops[i]?=some (k,r)->∀k',G.yl (1000000+i)=some k'->k'=k
 mD:∀l,E.mD=some l->∃(i:Nat) (r:Loop),E.loops[i]?=some (l,r)
 marks:∃ms:List Nat,a.defers=ms.map mark/\(ms++E.fixed).Nodup/\∀r,r∈ms++E.fixed->E.w0.heap.size<=r/\w.heap[r]?=some (.deferred (some []))
 Bb:pz G.aZ w
def fZ (w w':World):Prop:=∀(k:Nat)(o:Obj),w.heap[k]?=some o->o.isCells=false->w'.heap[k]?=some o
theorem fZ.refl (w:World):fZ w w:=λ_ _ h _=>h
theorem fZ.trans {A B C:World}(h:fZ A B)(h':fZ B C):fZ A C:=λk o a b=>h' k o (h k o a b) b
theorem fZ.CE {w w':World}(h:Below w.heap.size w w'):fZ w w':=λk o hk _=>by rw[h.block k (bB.1 hk).1];omega
theorem CF {w:World}{b i:Nat}{es:Array MapEntry}{n:Nat}(h:w.heap[b]?=some (.map es n)):w.cell? ⟨b,i,none⟩=none:=by simp[World.cell?,h]
theorem fZ.qO {w w':World}(h:fZ w w')(aZ:Nat->Nat->Prop):wO aZ w w':=λb es k _ hb=>h b _ hb rfl
theorem adQ.keep {aZ qN:Nat->Nat->Prop}{w w':World}{es:List MapEntry}{l:List (AV×AV)}(h:adQ aZ w es l)(hk:∀v x,dh aZ w v x->dh qN w' v x):adQ qN w' es l:=⟨h.1,λi e p h1 h2=>⟨hk _ _ (h.2 i e p h1 h2).1,hk _ _ (h.2 i e p h1 h2).2⟩⟩
theorem adS.keep {aZ qN:Nat->Nat->Prop}{w w':World}{r:Nat}{x:Option (AV×AV)×List (AV×AV)}(h:adS aZ w r x)(hk:∀v x,dh aZ w v x->dh qN w' v x)(hi:∀b,aZ b 0->qN b 0)(hr:∀m s seen c,w.heap[r]?=some (.mapIter m s seen c)->w'.heap[r]?=some (.mapIter m s seen c))(hm:wO aZ w w'):adS qN w' r x:=by rcases h with⟨h1,h2⟩|⟨m,fW,es,seen,h1,h2,h3,h4,h5,h6⟩;exact .inl ⟨h1,hr _ _ _ _ h2⟩;refine .inr ⟨m,fW,es,seen,hr _ _ _ _ h1,hm _ _ _ h3 h2,hi _ h3,h4,h5.keep hk,λp hp=>?_⟩;grind
theorem Ns (l:List (AV×FV)):Cu (λx=>x) l=l:=by
 induction l with
 |nil=>rfl
 |cons p l ih=>obtain⟨k,x⟩:=p;simp[Cu,ih]
theorem Zt.env {E E':Env}{G:aV}{S S':ai}{w:World}(h:Zt E G S w)(hE:E'.w0=E.w0)(hm:S'.maps=S.maps)(hi:S'.iM=S.iM)(hC:E'.C=E.C:=by rfl):Zt E' G S' w:=⟨λo l q=>h.at_ o l (hm▸q),λo b q=>hE▸h.loc o b q,h.inj,λq x p=>h.iM q x (hi▸p),λq r p=>hE▸h.zi q r p,h.zj,h.apart,λo T z k l b fW es q1 q2 q3 q4 i e p q5 q6 q7=>h.room o T z k l b fW es (hm▸q1) (hC▸q2) q3 q4 i e p q5 q6 q7⟩
theorem Nt {es es':List MapEntry}{c c':Nat}{o:Option Obj}(h:o=some (.map es.toArray c))(h':o=some (.map es'.toArray c')):es'=es:=by simp_all
structure lP (f:FV->FV)(G G':aV)(S S':ai)(w:World):Prop where
 p:∀x,f (.p x)=.p x
 maps:∀o l',getM S'.maps o=some l'->∃l,getM S.maps o=some l/\l'=Cu f l/\∀b,G.mp o=some b->G'.mp o=some b
 iM:∀q x,getM S'.iM q=some x->getM S.iM q=some x/\∀r,G.it q=some r->G'.it q=some r
 mp:∀o b,G'.mp o=some b->G.mp o=some b
 it:∀o b,G'.it o=some b->G.it o=some b
 afV:∀b i es k,w.heap[b]?=some (.map es k)->(∃o,G'.mp o=some b)->G'.aZ b i->G.aZ b i
 afW:∀b,G.aZ b 0->G'.aZ b 0
 loc:∀o b,G'.loc o=some b->G.loc o=some b\/∀es k,w.heap[b]?≠some (.map es k)
 tail:∀q r,G.tail (.inr q)=some r->G'.tail (.inr q)=some r
theorem lP.same {G G':aV}{S S':ai}{w:World}(h1:S'.maps=S.maps)(h2:S'.iM=S.iM)(h3:G'.mp=G.mp)(h4:G'.it=G.it)(h5:G'.aZ=G.aZ)(h6:G'.loc=G.loc)(ht:∀q r,G.tail (.inr q)=some r->G'.tail (.inr q)=some r:=by first|exactλ_ _ h=>h|exactλ_ _ h=>(aa (λe=>nomatch e)).trans h):lP (λx=>x) G G' S S' w:=⟨λ_=>rfl,λo l' h=>⟨l',h1▸h,(Ns l').symm,λb hb=>h3▸hb⟩,λq x h=>⟨h2▸h,λr hr=>h4▸hr⟩,λo b h=>h3▸h,λo b h=>h4▸h,λ_ _ _ _ _ _ h=>h5▸h,λ_ h=>h5▸h,λ_ _ h=>.inl (h6▸h),ht⟩
theorem lP.more {G G':aV}{S S':ai}{w:World}(h1:S'.maps=S.maps)(h2:S'.iM=S.iM)(h3:G'.mp=G.mp)(h4:G'.it=G.it)(h5:∀b i,G'.aZ b i->G.aZ b i\/w.heap.size<=b)(h6:∀b,G.aZ b 0->G'.aZ b 0)(h7:∀o b,G'.loc o=some b->G.loc o=some b\/∀es k,w.heap[b]?≠some (.map es k))(ht:∀q r,G.tail (.inr q)=some r->G'.tail (.inr q)=some r:=by first|exactλ_ _ h=>h|exactλ_ _ h=>(aa (λe=>nomatch e)).trans h):lP (λx=>x) G G' S S' w:=⟨λ_=>rfl,λo l' h=>⟨l',h1▸h,(Ns l').symm,λb hb=>h3▸hb⟩,λq x h=>⟨h2▸h,λr hr=>h4▸hr⟩,λo b h=>h3▸h,λo b h=>h4▸h,λb i _ _ hb _ h=>(h5 b i h).elim id λh=>by simp_all,h6,h7,ht⟩
theorem Zt.move {E:Env}{G G':aV}{S S':ai}{w w':World}(h:Zt E G S w)(f:FV->FV)(hk:∀v x,aT G w v x->aT G' w' v (f x))(hw:fZ w w')(hm:lP f G G' S S' w):Zt E G' S' w':=by
 have hp:∀v x,dh G.aZ w v x->dh G'.aZ w' v x:=λv x hv=>by
  have h1:=hk v (.p x) (.p v x hv);rw[hm.p]at h1;cases h1 with
  |p _ _ h2=>omega
 refine⟨λo l' hl=>?_,λo b hb=>?_,λo o' b h1 h2=>h.inj o o' b (hm.mp _ _ h1) (hm.mp _ _ h2),λq x hx=>?_,λq r hr=>?_,λq q' r h1 h2=>h.zj q q' r (hm.it _ _ h1) (hm.it _ _ h2),λo o' b h1 h2=>?_,λo T z k l' b' EP es' q1 q2 q3 q4 i e p q5 q6 q7=>?_⟩;obtain⟨l,h1,rfl,h2⟩:=hm.maps o l' hl;obtain⟨b,fW,es,h3,h4,h5,h6,h7⟩:=h.at_ o l h1;refine⟨b,fW,es,h2 b h3,hw _ _ h4 rfl,h5,by rw[Nf,aj];omega,λi e p he hpp=>?_⟩;rw[Nf,aR]at hpp;grind;obtain⟨h1,h2,es,fW,h3⟩:=h.loc o b (hm.mp _ _ hb);exact⟨h1,λi hi=>h2 i (hm.afV b i es fW h3 ⟨o,hb⟩ hi),es,fW,hw _ _ h3 rfl⟩;obtain⟨h1,h2⟩:=hm.iM q x hx;obtain⟨r,h3,h4⟩:=h.iM q x h1;exact⟨r,h2 r h3,h4.keep hp hm.afW (λm s seen c h=>hw _ _ h rfl) (hw.qO _)⟩;obtain⟨h1,m,s,seen,c,h2⟩:=h.zi q r (hm.it _ _ hr);exact⟨h1,m,s,seen,c,hw _ _ h2 rfl⟩;rcases hm.loc o' b h2 with h3|h3;exact h.apart o o' b (hm.mp _ _ h1) h3;obtain⟨-,-,es,k,h4⟩:=h.loc o b (hm.mp _ _ h1);simp_all;obtain⟨l,h1,rfl,h2⟩:=hm.maps o l' q1;obtain⟨b,fW,es,h3,h4,h5,h6,h7⟩:=h.at_ o l h1;obtain rfl:b=b':=by simp_all
 obtain rfl:=Nt (hw _ _ h4 rfl) q4;rw[Nf,aR]at q6;cases hq:l[i]?with
 |none=>simp_all
 |some q=>simp only[hq,eA,bN]at q6;subst q6;obtain⟨ad,n,c,g1,g2⟩:=h.room o T z k l b fW es' h1 q2 h3 h4 i e q q5 hq q7;exact⟨ad,n,c,g1,g2.imp id λ⟨b2,off,g3,g4⟩=>⟨b2,off,g3,hm.tail _ _ g4⟩⟩
theorem pz.of {G G':aV}{w w':World}(h:pz G.aZ w)(hk:∀v x,aT G w v x->aT G' w' v x):pz G'.aZ w':=λg xs hg=>by
 have key:∀v x,dh G.aZ w v x->dh G'.aZ w' v x:=λv x hv=>by
  have h1:=hk v (.p x) (.p v x hv);cases h1 with
  |p _ _ h2=>omega
 exact key _ _ (h g xs hg)
theorem Ext.move {E:Env}{G G':aV}{S S':ai}{a a':Act}{w w':World}(h:Ext E G S a w)(f:FV->FV)(hd:a'.defers=a.defers)(hp:S'.bZ=S.bZ)(hs:S'.bG=zb f S.bG)(hk:∀v x,aT G w v x->aT G' w' v (f x))(hw:fZ w w')(Kw:lP f G G' S S' w)(hy:∀l k,G'.yl l=some k->G.yl l=some k:=by intro _ _ h;exact h):Ext E G' S' a' w':=by
 refine⟨h.mps.move f hk hw Kw,by rw[hs,HQ,aj];exact h.kZ,λi vals fr h1 h2=>?_,by rw[hp];exact h.kj,λi k r st h1 h2=>?_,h.lp,λi k r h1 k' h2=>h.yl i k r h1 k' (hy _ _ h2),h.mD,?_,λg xs hg=>?_⟩;rw[hs,HQ,aR]at h2;cases hx:S.bG[i]?with
 |none=>simp_all
 |some fr0=>simp[hx]at h2;subst h2;obtain⟨h3,h4⟩:=h.bG i vals fr0 h1 hx;exact⟨h3,λj hj=>hk _ _ (h4 j hj)⟩
 obtain⟨h3,h4⟩:=h.loops i k r st h1 (hp▸h2);exact⟨h3,hw _ _ h4 rfl⟩;obtain⟨ms,h1,h2,h3⟩:=h.marks;exact⟨ms,hd.trans h1,h2,λr hr=>⟨(h3 r hr).1,hw _ _ (h3 r hr).2 rfl⟩⟩;have key:∀v x,dh G.aZ w v x->dh G'.aZ w' v x:=λv x hv=>by
  have h1:=hk v (.p x) (.p v x hv);rw[Kw.p]at h1;cases h1 with
  |p _ _ h2=>omega
 exact key _ _ (h.Bb g xs hg)
theorem ZT (rs:List Fr):zb (λx=>x) rs=rs:=by
 induction rs with
 |nil=>rfl
 |cons r rs ih=>simp[zb,ih,Fr.map]
theorem Ext.keep {E:Env}{G G':aV}{S S':ai}{a a':Act}{w w':World}(h:Ext E G S a w)(hd:a'.defers=a.defers)(hp:S'.bZ=S.bZ)(hs:S'.bG=S.bG)(hk:∀v x,aT G w v x->aT G' w' v x)(hw:fZ w w')(hy:∀l k,G'.yl l=some k->G.yl l=some k:=by intro _ _ h;exact h)(Kw:lP (λx=>x) G G' S S' w:=by exact lP.same rfl rfl rfl rfl rfl rfl):Ext E G' S' a' w':=h.move (λx=>x) hd hp (by rw[ZT];omega) hk hw Kw hy
structure Bld (E:Env)(G:aV)(S:ai)(w:World):Prop where
 at_:∀o bs,lN S.cL o=some bs->getObj S.aN o=none/\∃b,G.loc o=some b/\za E.C w b (G.row o) bs
 row:∀o r,G.row o=some r->(E.w0.heap.size<=r\/(o=999999/\r∈E.own))/\r<w.heap.size/\(∀i,¬G.aZ r i)/\(∀o',G.loc o'≠some r)/\(∀t q,G.tail t≠some (r,q))/\∀o',G.row o'=some r->o'=o
 cR:∀o r,G.row o=some r->∃cs T fr,w.heap[r]?=some (.cells cs T fr)
theorem za.keep {C:Ctx}{w w':World}{b:Nat}{row:Option Nat}{bs:List UInt8}(h:za C w b row bs)(hb:w'.heap[b]?=w.heap[b]?)(hr:∀r,row=some r->w'.heap[r]?=w.heap[r]?):za C w' b row bs:=by obtain⟨p,v,h1,h2,h3⟩:=h;refine⟨p,v,h1,hb.trans h2,?_⟩;grind
theorem Bld.keep {E E':Env}{G G':aV}{S S':ai}{w w':World}(h:Bld E G S w)(hC:E'.C=E.C)(hw0:E'.w0=E.w0)(hS:∀o bs,lN S'.cL o=some bs->lN S.cL o=some bs/\G'.loc o=G.loc o/\G'.row o=G.row o)(hO:∀o bs,lN S'.cL o=some bs->getObj S.aN o=none->getObj S'.aN o=none)(hrow:∀o r,G'.row o=some r->G.row o=some r)(hsz:w.heap.size<=w'.heap.size)(hb:∀o bs b,lN S.cL o=some bs->getObj S.aN o=none->G.loc o=some b->w'.heap[b]?=w.heap[b]?)(hr:∀o r,G.row o=some r->w'.heap[r]?=w.heap[r]?)(CG:∀o r i,G.row o=some r->G'.aZ r i->G.aZ r i)(gb:∀o r o',G.row o=some r->G'.loc o'=some r->G.loc o'=some r)(aip:∀o r t q,G.row o=some r->G'.tail t=some (r,q)->∃t' q',G.tail t'=some (r,q'))(hown:E'.own=E.own:=by rfl):Bld E' G' S' w':=by refine⟨λo bs hq=>?_,λo r hq=>?_,λo r hq=>by rw[hr o r (hrow o r hq)];exact h.cR o r (hrow o r hq)⟩;obtain⟨h1,h2,h3⟩:=hS o bs hq;obtain⟨h4,b,h5,h6⟩:=h.at_ o bs h1;refine⟨hO o bs hq h4,b,h2.trans h5,?_⟩;rw[h3,hC];exact h6.keep (hb o bs b h1 h4 h5) (λr e=>hr o r e);have h0:=hrow o r hq;obtain⟨h1,h2,h3,h4,h5,h6⟩:=h.row o r h0;grind
theorem Bld.same {E E':Env}{G:aV}{S S':ai}{w w':World}(h:Bld E G S w)(hC:E'.C=E.C)(hw0:E'.w0=E.w0)(hS:S'.cL=S.cL)(hO:S'.aN=S.aN)(hsz:w.heap.size<=w'.heap.size)(hb:∀o bs b,lN S.cL o=some bs->getObj S.aN o=none->G.loc o=some b->w'.heap[b]?=w.heap[b]?)(hr:∀o r,G.row o=some r->w'.heap[r]?=w.heap[r]?)(hown:E'.own=E.own:=by rfl):Bld E' G S' w':=h.keep hC hw0 (λo bs q=>⟨hS▸q,rfl,rfl⟩) (λo _ _ q=>hO▸q) (λ_ _ e=>e) hsz hb hr (λ_ _ _ _ e=>e) (λ_ _ _ _ e=>e) (λ_ _ t q _ e=>⟨t,q,e⟩) hown
structure bp (E:Env)(G:aV)(S:ai)(a:Act)(w:World):Prop where
 kept:Kept E.own E.w0 w
 size:a.tmps.size=S.n
 ext':Ext E G S a w
 jl:Bld E G S w
 oy:∀b o,G.aZ b o->E.BF b o\/E.w0.heap.size<=b
 fo:∀b o,G.aZ b o->b<w.heap.size
 tmps:∀i,i<S.n->aT G w (a.tmps.getD i undef) (S.tmps i)
 aN:∀o cells,getObj S.aN o=some cells->∃b,G.loc o=some b/\∀(i:Nat)(x:FV),cells[i]?=some x->∃c,w.cell? ⟨b,i,none⟩=some c/\aT G w c x
 iz:∀o b,G.loc o=some b->b<w.heap.size/\E.mine o b/\∀i,¬G.aZ b i/\w.frozen? ⟨b,i,none⟩=false
 fk:∀o o' b,G.loc o=some b->G.loc o'=some b->o=o'
 cE:∀o t b r,G.loc o=some b->G.tail t=some (b,r)->t=o/\lN S.cL o=none/\∀cells,getObj S.aN o=some cells->cells.length=r.1
 fF:∀t b s e T,G.tail t=some (b,s,e,T)->b<w.heap.size/\E.w0.heap.size<=b/\(∃cs fr,w.heap[b]?=some (.cells cs T fr)/\adT t fr)/\∀i,s<=i->i<e->(∃c,w.cell? ⟨b,i,none⟩=some c)/\w.frozen? ⟨b,i,none⟩=false/\¬G.aZ b i
 ek:∀t t' b r r',G.tail t=some (b,r)->G.tail t'=some (b,r')->t=t'
def pV (E:Env)(S:ai)(a:Act)(w:World):Prop:=∃G,bp E G S a w
theorem pV.weaken {E:Env}{S S':ai}{a:Act}{w:World}(h:pV E S a w)(hw:bM S S'):pV E S' a w:=by
 obtain⟨G,h⟩:=h;refine⟨G,h.kept,h.size.trans hw.n.symm,⟨⟨λo l' hl=>?_,h.ext'.mps.loc,h.ext'.mps.inj,λq x hx=>h.ext'.mps.iM q x (hw.iM q x hx),h.ext'.mps.zi,h.ext'.mps.zj,h.ext'.mps.apart,λo T z k l' b fW es q1 q2 q3 q4 i e p q5 q6 q7=>?_⟩,hw.bG.1.trans h.ext'.kZ,λi vals fr h1 h2=>?_,by rw[hw.bZ];exact h.ext'.kj,λi k r st h1 h2=>h.ext'.loops i k r st h1 (hw.bZ▸h2),h.ext'.lp,h.ext'.yl,h.ext'.mD,h.ext'.marks,h.ext'.Bb⟩,⟨λo bs q=>⟨(hw.cL o bs q).2 (h.jl.at_ o bs (hw.cL o bs q).1).1,(h.jl.at_ o bs (hw.cL o bs q).1).2⟩,h.jl.row,h.jl.cR⟩,h.oy,h.fo,λi hi=>hw.tmps i _ _ _ (h.tmps i (hw.n▸hi)),λo ys ho=>?_,h.iz,h.fk,λo t b r h1 h2=>?_,h.fF,h.ek⟩;obtain⟨l,h1,h2,h3⟩:=hw.maps o l' hl;obtain⟨b,fW,es,h4,h5,h6,h7,h8⟩:=h.ext'.mps.at_ o l h1;refine⟨b,fW,es,h4,h5,h6,h7.trans h2,λi e p he hp=>?_⟩;have yW:i<l.length:=by rw[h2];exact(aG.1 hp).1
 obtain⟨h9,h10⟩:=h3 i _ p (av yW) hp;obtain⟨h11,h12⟩:=h8 i e _ he (av yW);exact⟨h9▸h11,h10 _ _ _ h12⟩;obtain⟨l,h1,h2,h3⟩:=hw.maps o l' q1;have yW:i<l.length:=by rw[h2];exact(aG.1 q6).1
 obtain⟨h9,-⟩:=h3 i _ p (av yW) q6;exact h.ext'.mps.room o T z k l b fW es h1 q2 q3 q4 i e _ q5 (av yW) (h9▸q7);have hl:i<S.bG.length:=by rw[<-hw.bG.1];exact(aG.1 h2).1
 obtain⟨h3,h4,h5⟩:=hw.bG.2 i _ fr (av hl) h2;obtain⟨h6,h7⟩:=h.ext'.bG i vals _ h1 (av hl);exact⟨h6.trans h3.symm,λj hj=>h5 j _ _ _ (h7 j (h3▸hj))⟩;obtain⟨xs,h1,h2,h3⟩:=hw.aN o ys ho;obtain⟨b,h4,h5⟩:=h.aN o xs h1;refine⟨b,h4,λi y hy=>?_⟩;have hl:i<xs.length:=by rw[h2];exact(aG.1 hy).1
 obtain⟨c,h6,h7⟩:=h5 i _ (av hl);exact⟨c,h6,h3 i _ _ (av hl) hy _ _ _ h7⟩;obtain⟨h3,h4,h5⟩:=h.cE o t b r h1 h2;refine⟨h3,?_,λys ho=>?_⟩;cases hb:lN S'.cL o with
 |none=>rfl
 |some bs=>rw[(hw.cL o bs hb).1]at h4;omega
 obtain⟨xs,h6,h7,-⟩:=hw.aN o ys ho;simp_all
theorem bp.J {E:Env}{G:aV}{S:ai}{a:Act}{w:World}(h:bp E G S a w):(E.C.J w/\pz G.aZ w)/\E.C.oG<=w.heap.size:=⟨⟨E.C.agE E.w0 w (λk hk=>h.kept.block k (fM hk E.hn) λhm=>by have :=(E.hown k hm).1;omega) E.hJ,h.ext'.Bb⟩,bH E.hn h.kept.size⟩
theorem pY {a:Act}{t:Nat}:a.eval (.tmp t)=a.tmps.getD t undef:=rfl
theorem aT.get {E:Env}{G:aV}{S:ai}{a:Act}{w:World}(h:bp E G S a w)(t:Nat):aT G w (a.tmps.getD t undef) (S.get t):=by unfold ai.get;split;rename_i hb;exact h.tmps t (by simp_all);exact .dF _
theorem Tf (aZ:Nat->Nat->Prop)(w:World)(s:ByteArray):dh aZ w (.string s) (.str s.data.toList):=by have :=dh.str (aZ:=aZ) (w:=w) s.data.toList;omega
theorem uO (G:aV)(w:World)(v:Value):aT G w v (FV.gP v):=by unfold FV.gP;split;exact .p _ _ (.bool _);exact .p _ _ (.int _ _);exact .p _ _ (Tf _ _ _);exact .p _ _ .wN;exact .p _ _ .BA;exact .p _ _ .sE;exact .p _ _ .lu;exact .full [] none (.Xi none 0);exact .dF _
theorem Ib (G:aV)(w:World)(v:Value):aT G w v (FV.PE v):=by unfold FV.PE;split;rename_i cs;have :=aT.agg (G:=G) (w:=w) cs.toList (cs.toList.map FV.gP) (by simp) (λi c x h1 h2=>by rw[aR,h1]at h2;simp only[eA,bN]at h2;subst h2;exact uO _ _ _);omega;exact .p _ _ (by simpa using dh.eV (aZ:=G.aZ) (w:=w) [] [] rfl (by simp));exact uO _ _ _
theorem aT.val {E:Env}{G:aV}{S:ai}{a:Act}{w:World}(h:bp E G S a w)(x:Operand):aT G w (a.eval x) (S.val x):=by
 cases x with
 |tmp t=>exact aT.get h t
 |const v=>exact Ib _ _ _
 |func f=>exact .p _ _ (by simpa[Act.eval]using dh.fn (aZ:=G.aZ) (w:=w) (.func f) [] [] [] [] rfl rfl (by simp) (by simp))
 |global g=>simp only[ai.val];split;rename_i xs hg;exact .p _ _ (h.ext'.Bb g xs hg);exact .dF _
theorem bp.put {E:Env}{G:aV}{S:ai}{a:Act}{w:World}(h:bp E G S a w)(dst:Option Nat){v:Value}{x:FV}(hv:aT G w v x):bp E G (S.put dst x) (a.put dst v) w:=by
 cases dst with
 |none=>exact h
 |some d=>
  refine⟨h.kept,by simpa[Act.put,ai.put]using h.size,h.ext'.keep rfl rfl rfl (λ_ _ h=>h) (.refl _),⟨h.jl.at_,h.jl.row,h.jl.cR⟩,h.oy,h.fo,λi hi=>?_,h.aN,h.iz,h.fk,h.cE,h.fF,h.ek⟩;have hi':i<a.tmps.size:=by rw[h.size];exact hi
  simp only[ai.put,Act.put];by_cases hd:i=d;simp_all;have :Nat.beq i d=false:=by cases hb:Nat.beq i d;rfl;simp_all
  rw[this];have :=h.tmps i hi;simpa[Array.getD,hi',CH,eO hd]using this
theorem bp.Nu {E:Env}{G:aV}{S:ai}{a:Act}{w w':World}(h:bp E G S a w)(hb:Below w.heap.size w w')(N:Nat->Nat->Prop):bp E {G with aZ:=λb o=>G.aZ b o\/(w.heap.size<=b/\b<w'.heap.size/\N b o)} S a w':=by have hcell:∀b i,b<w.heap.size->w'.cell? ⟨b,i,none⟩=w.cell? ⟨b,i,none⟩:=λb i hl=>hb.cell (p:=⟨b,i,none⟩) hl;have VH:∀b i,b<w.heap.size->w'.frozen? ⟨b,i,none⟩=w.frozen? ⟨b,i,none⟩:=λb i hl=>hb.frozen (p:=⟨b,i,none⟩) hl;have keep:∀v x,aT G w v x->aT {G with aZ:=λb o=>G.aZ b o\/(w.heap.size<=b/\b<w'.heap.size/\N b o)} w' v x:=λv x hv=>hv.keep (λb o hi=>.inl hi) (λb o c hi hc=>by rw[hcell b o (h.fo b o hi)];omega) ((fZ.CE hb).qO _) (λ_ _ e=>e) (λ_ _ e=>e);refine⟨⟨hb.os.trans h.kept.os,hb.tape.trans h.kept.tape,hb.output.trans h.kept.output,bH h.kept.size hb.size,λk hk hk'=>(hb.block k (fM hk h.kept.size)).trans (h.kept.block k hk hk'),λk cs T fr hk q=>let⟨cs',q1,q2⟩:=h.kept.shape k cs T fr hk q;⟨cs',(hb.block k (bB.1 q1).1).trans q1,q2⟩⟩,h.size,h.ext'.keep rfl rfl rfl keep (.CE hb) (Kw:=.more rfl rfl rfl rfl (λb i hi=>hi.imp id λhi=>hi.1) (λb hi=>.inl hi) λ_ _ h=>.inl h),?_,?_,?_,λi hi=>keep _ _ (h.tmps i hi),?_,?_,h.fk,h.cE,?_,h.ek⟩;exact h.jl.keep rfl rfl (λo bs q=>⟨q,rfl,rfl⟩) (λ_ _ _ q=>q) (λ_ _ e=>e) hb.size (λo bs b q _ e=>hb.block b (h.iz o b e).1) (λo r e=>hb.block r (h.jl.row o r e).2.1) (λo r i e hi=>hi.elim id λhi=>absurd (h.jl.row o r e).2.1 oO) (λ_ _ _ _ e=>e) (λ_ _ t q _ e=>⟨t,q,e⟩);rintro b o (hi|⟨hi,_⟩);exact h.oy b o hi;exact .inr (bH h.kept.size hi);rintro b o (hi|⟨_,hi,_⟩);exact fM (h.fo b o hi) hb.size;omega;intro o cells ho;obtain⟨b,h1,h2⟩:=h.aN o cells ho;refine⟨b,h1,λi x hx=>?_⟩;obtain⟨c,h3,h4⟩:=h2 i x hx;exact⟨c,by rw[hcell b i (h.iz o b h1).1];omega,keep _ _ h4⟩;intro o b ho;obtain⟨h1,h2,h3⟩:=h.iz o b ho;refine⟨fM h1 hb.size,h2,λi=>⟨?_,by simp_all⟩⟩;grind;intro t b s e T ht;obtain⟨h1,h2,hty,h3⟩:=h.fF t b s e T ht;refine⟨fM h1 hb.size,h2,by rw[hb.block b h1];omega,λi hi hi'=>?_⟩;grind
theorem bp.ext {E:Env}{G:aV}{S:ai}{a:Act}{w w':World}(h:bp E G S a w)(hb:Below w.heap.size w w'):bp E {G with aZ:=λb o=>G.aZ b o\/(w.heap.size<=b/\b<w'.heap.size)} S a w':=by have :=h.Nu hb λ_ _=>True;simp_all
theorem CI (aZ:Nat->Nat->Prop)(w:World)(o:Obj):wO aZ w (w.alloc o):=(fZ.CE ((Below.refl _ _).alloc (ay _) _)).qO _
theorem bp.drew {E:Env}{G:aV}{S:ai}{a:Act}{w:World}(h:bp E G S a w):bp E G S a {w with drawn:=w.drawn+1}:=by have keep:∀v x,aT G w v x->aT G {w with drawn:=w.drawn+1} v x:=λv x hv=>hv.keep (λ_ _ hi=>hi) (λ_ _ _ _ hc=>hc) (λ_ _ _ _ h=>h) (λ_ _ e=>e) (λ_ _ e=>e);refine⟨⟨h.kept.os,h.kept.tape,h.kept.output,h.kept.size,h.kept.block,h.kept.shape⟩,h.size,h.ext'.keep rfl rfl rfl keep (.refl _),h.jl.same rfl rfl rfl rfl (ay _) (λ_ _ _ _ _ _=>rfl) (λ_ _ _=>rfl),h.oy,h.fo,λi hi=>keep _ _ (h.tmps i hi),λo cells ho=>?_,h.iz,h.fk,h.cE,h.fF,h.ek⟩;obtain⟨b,h1,h2⟩:=h.aN o cells ho;exact⟨b,h1,λi x hx=>let⟨c,h3,h4⟩:=h2 i x hx;⟨c,h3,keep _ _ h4⟩⟩
def AV.cell:AV->Value|.bool b=>.bool b|.int k n=>.int k n|.str s=>.string ⟨s.toArray⟩|_=>undef
def tv (agg:Bool)(xs:List AV):Value:=match agg with|true=>.agg (xs.map AV.cell).toArray|false=>(xs.map AV.cell).headD undef
def gJ (P:Program)(t:TypeId):Bool:=match P.underlying t with|some (.struct _)=>true|some (.array _ _)=>true|_=>false
theorem Tg {P:Program}{w:World}{t:TypeId}{d:TypeDesc}(h:P.underlying t=some d):(Go.isAgg t).run P w=.ok (gJ P t) w:=by simp only[Go.isAgg,Sem.run_bind,run_underlying h,Result.andThen_ok,gJ,h];cases d<;>rfl
theorem Ic (k:IntKind):Bi k k=true:=by simp[Bi]
theorem jm {L:List gI}{xs:List AV}(h:fu L xs=true):xs.length=L.length:=by
 induction L generalizing xs with
 |nil=>cases xs<;>simp_all[fu]
 |cons l L ih=>
  cases xs with
  |nil=>simp[fu]at h
  |cons x xs=>simp only[fu]at h;grind
theorem vO {L1 L2:List gI}{xs:List AV}(h:fu (L1++L2) xs=true):∃x1 x2,xs=x1++x2/\fu L1 x1=true/\fu L2 x2=true:=by
 induction L1 generalizing xs with
 |nil=>exact⟨[],xs,rfl,rfl,h⟩
 |cons l L1 ih=>
  cases xs with
  |nil=>simp[fu]at h
  |cons x xs=>simp only[eB,fu]at h;split at h;rename_i hx;obtain⟨x1,x2,rfl,h1,h2⟩:=ih h;exact⟨x::x1,x2,rfl,by simp[fu,hx,h1],h2⟩;simp_all
theorem Ie {L1:List gI}{x1 y1 x2 y2:List AV}(hx:fu L1 x1=true)(hy:fu L1 y1=true):sameAs (x1++x2) (y1++y2)=(sameAs x1 y1&&sameAs x2 y2):=by
 induction L1 generalizing x1 y1 with
 |nil=>cases x1<;>cases y1<;>simp_all[fu,sameAs]
 |cons l L1 ih=>
  cases x1 with
  |nil=>simp[fu]at hx
  |cons x x1=>
   cases y1 with
   |nil=>simp[fu]at hy
   |cons y y1=>simp only[fu]at hx hy;split at hx;split at hy;simp only[eB,sameAs,ih hx hy,wZ];simp_all;simp_all
theorem adU {P:Program}{w:World}{d:Nat}{t:TypeId}{l:gI}{x y:AV}(hu:(P.underlying t=some .bool/\l=.bool)\/(∃k,P.underlying t=some (.int k)/\l=.int k)\/(P.underlying t=some .string/\l=.str))(hx:l.fits x=true)(hy:l.fits y=true):(Op.equalIn (d+1) t x.cell y.cell).run P w=.ok (sF x y) w:=by rcases hu with⟨hu,rfl⟩|⟨k,hu,rfl⟩|⟨hu,rfl⟩;cases x<;>simp[gI.fits]at hx;cases y<;>simp[gI.fits]at hy;simp[AV.cell,Op.equalIn,run_underlying hu,sF];cases x<;>simp[gI.fits]at hx;cases y<;>simp[gI.fits]at hy;obtain rfl:=rV hx;obtain rfl:=rV hy;simp[AV.cell,Op.equalIn,run_underlying hu,sF,Ic];cases x<;>simp[gI.fits]at hx;cases y<;>simp[gI.fits]at hy;rename_i a b;simp only[AV.cell,Op.equalIn,Sem.run_bind,run_underlying hu,Result.andThen_ok,Sem.run_pure,sF,beq_toListBytes];simp_all
theorem aj4 {A x:List AV}{B:List AV}{off:Nat}(hA:A.length=off)(a:AV):(((A++(a::B)).map AV.cell).toArray)[off]?=some a.cell:=by simp_all
theorem adV {A x B:List AV}{off n:Nat}(hA:A.length=off)(hx:x.length=n):((A++(x++B)).map AV.cell).toArray.extract off (off+n)=(x.map AV.cell).toArray:=by simp_all
theorem Th {P:Program}{w:World}{e:TypeId}{d:TypeDesc}{L:List gI}{A x B:List AV}{off:Nat}(hu:P.underlying e=some d)(hagg:gJ P e=true->P.cellsOf e=L.length/\∃i,P.info? e=some i)(h1:gJ P e=false->L.length=1)(hA:A.length=off)(hx:fu L x=true):(part e ((A++(x++B)).map AV.cell).toArray off).run P w=.ok (tv (gJ P e) x) w:=by
 have hl:=jm hx;simp only[part,Sem.run_bind,Tg hu,Result.andThen_ok];cases hq:gJ P e with
 |true=>obtain⟨h2,i,hi⟩:=hagg hq;simp only[if_true,Sem.run_bind,run_sizeOf w hi,Result.andThen_ok,Sem.run_pure,h2,tv,<-hl,adV hA rfl]
 |false=>have h3:=h1 hq;match x,hl.trans h3 with|[a],_=>simp only[sS,if_false,tv];simp_all
theorem qP {P:Program}{d:Nat}{t:TypeId}{L:List gI}(h:eM P (d+1) t=some L):(∃l,L=[l]/\gJ P t=false/\((P.underlying t=some .bool/\l=.bool)\/(∃k,P.underlying t=some (.int k)/\l=.int k)\/(P.underlying t=some .string/\l=.str)))\/(P.cellsOf t=L.length/\gJ P t=true/\((∃fs,P.underlying t=some (.struct fs)/\P.stoodInHeld t=false/\oH P d 0 fs.toList=some L)\/∃n e l,P.underlying t=some (.array n e)/\eM P d e=some l/\P.cellsOf e=l.length/\L=(List.replicate n l).flatten)):=by
 have ZU:∀{o:Option (List gI)},adM P t o=some L->o=some L/\P.cellsOf t=L.length:=λ{o} h=>by unfold adM at h;split at h;grind;split at h;simp_all;simp_all
 unfold eM at h;split at h;rename_i hu;obtain rfl:=au h;exact .inl ⟨_,rfl,by simp[gJ,hu],.inl ⟨hu,rfl⟩⟩;rename_i k hu;obtain rfl:=au h;exact .inl ⟨_,rfl,by simp[gJ,hu],.inr (.inl ⟨k,hu,rfl⟩)⟩;rename_i hu;obtain rfl:=au h;exact .inl ⟨_,rfl,by simp[gJ,hu],.inr (.inr ⟨hu,rfl⟩)⟩;rename_i fs hu;split at h;grind;rename_i hs;obtain⟨h1,h2⟩:=ZU h;exact .inr ⟨h2,by simp[gJ,hu],.inl ⟨fs,hu,hs,h1⟩⟩;rename_i n e hu;split at h;grind;rename_i l hl;split at h;rename_i hb;obtain⟨h1,h2⟩:=ZU h;obtain h1:=au h1;exact .inr ⟨h2,by simp[gJ,hu],.inr ⟨n,e,l,hu,hl,aP hb,h1.symm⟩⟩;simp_all;simp_all
theorem xb {P:Program}{d:Nat}{t:TypeId}{L:List gI}(h:eM P d t=some L):∃q i,P.underlying t=some q/\P.info? t=some i:=by
 cases d with
 |zero=>simp[eM]at h
 |succ d=>
  have :∃q,P.underlying t=some q:=by rcases qP h with⟨l,-,-,⟨h,-⟩|⟨k,h,-⟩|⟨h,-⟩⟩|⟨-,-,⟨fs,h,-⟩|⟨n,e,l,h,-⟩⟩;all_goals simp_all
  obtain⟨q,hq⟩:=this;obtain⟨i,hi⟩:=info_of_underlying hq;simp_all
theorem pL {P:Program}{w:World}{d:Nat}{e:TypeId}{L:List gI}{A x B:List AV}{off:Nat}(h:eM P d e=some L)(hA:A.length=off)(hx:fu L x=true):(part e ((A++(x++B)).map AV.cell).toArray off).run P w=.ok (tv (gJ P e) x) w:=by
 obtain⟨q,i,hq,hi⟩:=xb h;cases d with
 |zero=>simp[eM]at h
 |succ d=>refine Th hq (λha=>⟨?_,i,hi⟩) (λha=>?_) hA hx;rcases qP h with⟨l,-,h2,-⟩|⟨h2,-,-⟩;simp_all;omega;rcases qP h with⟨l,rfl,-,-⟩|⟨-,h2,-⟩;rfl;simp_all
theorem ER {P:Program}:∀(d:Nat),(∀(t:TypeId)(L:List gI)(D:Nat)(w:World)(xs ys:List AV),d<=D->eM P d t=some L->fu L xs=true->fu L ys=true->(Op.equalIn D t (tv (gJ P t) xs) (tv (gJ P t) ys)).run P w=.ok (sameAs xs ys) w)/\(∀(fs:List Field)(off:Nat)(L:List gI)(D:Nat)(w:World)(A A' xs ys:List AV),d<=D->oH P d off fs=some L->A.length=off->A'.length=off->fu L xs=true->fu L ys=true->(Op.eqFields D ((A++xs).map AV.cell).toArray ((A'++ys).map AV.cell).toArray fs).run P w=.ok (sameAs xs ys) w)
 |0=>⟨λt L D w xs ys _ h=>by simp[eM]at h,λfs off L D w A A' xs ys _ h=>by simp[oH]at h⟩
 |d+1=>by
  obtain⟨ih1,ih2⟩:=ER d;constructor;intro t L D w xs ys hD h hx hy;obtain⟨D,rfl⟩:∃D',D=D'+1:=⟨D-1,oO⟩;rcases qP h with⟨l,rfl,ha,hu⟩|⟨hc,ha,⟨fs,hu,hs,hf⟩|⟨n,e,l,hu,hl,hce,rfl⟩⟩;rw[ha];match xs,ys,jm hx,jm hy with
   |[x],[y],_,_=>
    have hx':l.fits x=true:=by simp only[fu]at hx;split at hx;assumption;cases hx
    have hy':l.fits y=true:=by simp only[fu]at hy;split at hy;assumption;cases hy
    have :=adU (w:=w) (d:=D) hu hx' hy';simpa[tv,sameAs]using this
  rw[ha];have Kx:P.fieldsOf t=fs:=by simp[Program.fieldsOf,hu]
  simp only[tv];rw[run_equalIn_struct w D t _ _ (by rw[Kx];exact hu) hs,Kx];exact ih2 fs.toList 0 L D w [] [] xs ys oO hf rfl rfl hx hy;rw[ha];obtain⟨q,i,hq,hi⟩:=xb hl;simp only[tv];rw[run_equalIn_array w D _ _ hu hi];have key:∀(k j:Nat)(A A' xs ys:List AV),A.length=j*P.cellsOf e->A'.length=j*P.cellsOf e->fu (List.replicate k l).flatten xs=true->fu (List.replicate k l).flatten ys=true->(Op.eqItems D e (P.cellsOf e) ((A++xs).map AV.cell).toArray ((A'++ys).map AV.cell).toArray (List.range' j k)).run P w=.ok (sameAs xs ys) w:=by
   intro k;induction k with
   |zero=>intro j A A' xs ys _ _ hx hy;have e1:xs=[]:=bK.1 (jm hx);have e2:ys=[]:=bK.1 (jm hy);subst e1 e2;rfl
   |succ k ihk=>
    intro j A A' xs ys hA hA' hx hy;rw[List.replicate_succ,nM]at hx hy;obtain⟨x1,x2,rfl,hx1,hx2⟩:=vO hx;obtain⟨y1,y2,rfl,hy1,hy2⟩:=vO hy;rw[List.range'_succ];simp only[Op.eqItems,Sem.run_bind,pL hl hA hx1,pL hl hA' hy1,Result.andThen_ok,ih1 e l D w x1 y1 oO hl hx1 hy1,Ie hx1 hy1];cases hs:sameAs x1 y1 with
    |false=>simp
    |true=>have :=ihk (j+1) (A++x1) (A'++y1) x2 y2 (by rw[aq,hA,jm hx1,bC,kn,hce]) (by rw[aq,hA',jm hy1,bC,kn,hce]) hx2 hy2;simp_all
  have :=key n 0 [] [] xs ys (by simp) (by simp) hx hy;rw[CL];simp_all;intro fs off L D w A A' xs ys hD h hA hA' hx hy;cases fs with
  |nil=>simp only[oH,bN]at h;subst h;have e1:xs=[]:=bK.1 (jm hx);have e2:ys=[]:=bK.1 (jm hy);subst e1 e2;rfl
  |cons f fs=>
   simp only[oH]at h;split at h;rename_i hn ho;split at h;grind;rename_i l hl;split at h;grind;rename_i r hr;obtain rfl:=au h;obtain⟨x1,x2,rfl,hx1,hx2⟩:=vO hx;obtain⟨y1,y2,rfl,hy1,hy2⟩:=vO hy;have ho:=aP ho;have hn':f.name≠ "_" :=by simpa using hn
   simp only[Op.eqFields,hn',ne_eq,not_false_eq_true,if_true,Sem.run_bind,pL hl (hA.trans ho.symm) hx1,pL hl (hA'.trans ho.symm) hy1,Result.andThen_ok,ih1 f.type l D w x1 y1 oO hl hx1 hy1,Ie hx1 hy1];cases hs:sameAs x1 y1 with
   |false=>simp
   |true=>have :=ih2 fs (off+l.length) r D w (A++x1) (A'++y1) x2 y2 oO hr (by rw[aq,hA,jm hx1]) (by rw[aq,hA',jm hy1]) hx2 hy2;simp_all
   simp_all
end Qv
