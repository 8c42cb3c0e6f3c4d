/- Part 3 of the proof: its lemmas. No condition. -/
import Derived.Test.YtiboombocnfngaaGreatDoorY2
import Derived.Laws.Append
import Derived.Laws.Tables
import Derived.Laws.AppendOwn
import Derived.Laws.MakeOwn
import Derived.RangeFuncNested
set_option maxRecDepth 10000
set_option maxHeartbeats 80000000
set_option linter.all false
namespace Qv
open Go Go.RowKit
section
variable {E:Env}{G:aZ}{S:ag}{a:Act}{w:World}{o:Oper}
def Env.je (E:Env):Fence:=match E.lX with|none=>Fence.wide|some l=>Fence.wide.inRound l
theorem Env.gd (f:FuncId):E.je.fn f:=by unfold Env.je;split<;>trivial
theorem Env.kj:E.je.depth=none:=by unfold Env.je;split<;>rfl
theorem Env.xX:E.je.round=E.lX:=by unfold Env.je;split<;>rename_i h<;>rw[h]<;>rfl
theorem mu {P:Program}{f:FuncId}{args:Array Value}{w:World}{R:Ending->World->Prop}(h:Calls P f args w R):CallsIn E.je 0 P f args w R:=by unfold Env.je;split;exact callsIn_wide.2 h;exact CallsIn.inRound _ (callsIn_wide.2 h)
abbrev AY (E:Env)(o:Oper)(a:Act)(w:World)(next:Act->World->Prop)(Q:Exit->Act->World->Prop):Prop:=o.wpIn E.je 0 E.C.P a w next Q
theorem VQ {P:Program}{ρ:Operand->Value}{v:Value}{w':World}(h:(execOp ρ o).run P w=.ok (.value v) w'):∀c,o.op≠.defer c:=λc hc=>by unfold execOp at h;rw[hc]at h;simp only[Sem.run_bind]at h;cases hr:(resolve ρ c o.type).run P w<;>simp[hr,Result.andThen]at h
theorem wp_value {v:Value}{w':World}{next:Act->World->Prop}{Q:Exit->Act->World->Prop}(h:(execOp a.eval o).run E.C.P w=.ok (.value v) w')(hn:next (a.put o.dst v) w'):AY E o a w next Q:=by refine⟨λf _=>Env.gd f,?_⟩;rw[Oper.semAt_eq _ _ _ (VQ h),h];exact hn
theorem wp_of_yields {K:FV->Prop}(hs:bp E G S a w)(h:Yields E G a w o K){next:Act->World->Prop}{Q:Exit->Act->World->Prop}(hn:∀x v G' w',K x->bp E G' S a w'->aO G' w' v x->next (a.put o.dst v) w'):AY E o a w next Q:=by obtain⟨v,x,w',h1,h2,h3,h4⟩:=h;exact wp_value h1 (hn x v _ w' h2 (hs.ext h3) h4)
theorem tj (hs:bp E G S a w)(args:List Operand):(args.map a.eval).length=(args.map S.val).length/\∀(i:Nat)(c:Value)(x:FV),(args.map a.eval)[i]?=some c->(args.map S.val)[i]?=some x->aO G w c x:=by
 refine⟨by simp,λi c x hc hx=>?_⟩;rw[aJ]at hc hx;cases h0:args[i]?with
 |none=>simp_all
 |some y=>simp[h0]at hc hx;subst hc;subst hx;exact aO.val hs y
theorem ni {cs:List Value}{xs:List FV}{ys:List AV}(h:cs.length=xs.length/\∀(i:Nat)(c:Value)(x:FV),cs[i]?=some c->xs[i]?=some x->aO G w c x)(hy:FV.fQ xs=some ys):cs.length=ys.length/\∀(i:Nat)(c:Value)(y:AV),cs[i]?=some c->ys[i]?=some y->dh G.bh w c y:=by obtain⟨h1,h2⟩:=FV.iV hy;refine⟨oO,λi c y hc hy=>?_⟩;obtain⟨x,hx,hxy⟩:=h2 i y hy;exact(h.2 i c x hc hx).eW hxy
theorem vT {bh:Nat->Nat->Prop}{cs ds:List Value}{xs ys:List AV}(h:cs.length=xs.length/\∀(i:Nat)(c:Value)(x:AV),cs[i]?=some c->xs[i]?=some x->dh bh w c x)(h':ds.length=ys.length/\∀(i:Nat)(c:Value)(x:AV),ds[i]?=some c->ys[i]?=some x->dh bh w c x):(cs++ds).length=(xs++ys).length/\∀(i:Nat)(c:Value)(x:AV),(cs++ds)[i]?=some c->(xs++ys)[i]?=some x->dh bh w c x:=by grind
theorem tn {P:Program}{ρ:Operand->Value}{f:Operand}{args:Array Operand}{types:Array TypeId}{g:FuncId}{first captured:Array Value}{fn:Func}(ho:o.op=.call ⟨.value f,args,types⟩)(hf:ρ f=.func (.func g) first captured)(h1:P.funcs[g]?=some fn)(h2:fn.body.isNone=false)(h3:(fn.name== "runtime.NumGoroutine")=false):(execOp ρ o).run P w=.ok (.enter g (first++args.map ρ++captured)) w:=by
 have h3':¬fn.name= "runtime.NumGoroutine" :=by simpa using h3
 have h2':¬fn.body=none:=by grind
 simp[execOp,ho,resolve,hf,Deferred.ofValue,invoke,callFunc,h1,h2',h3']
theorem wp_call (hs:bp E G S a w){f:Operand}{args:Array Operand}{types:Array TypeId}{g:FuncId}{first captured:Array Value}{xs:List AV}{R:fN->Prop}(ho:o.op=.call ⟨.value f,args,types⟩)(hf:a.eval f=.func (.func g) first captured)(hr:(first++args.map a.eval++captured).toList.length=xs.length/\∀(i:Nat)(c:Value)(x:AV),(first++args.map a.eval++captured).toList[i]?=some c->xs[i]?=some x->dh G.bh w c x)(hc:au E.C g xs R){next:Act->World->Prop}{Q:Exit->Act->World->Prop}(hn:∀r v w',R r->Below w.heap.size w w'->nH G.bh w.heap.size w' v r->next (a.put o.dst v) w'):AY E o a w next Q:=by obtain⟨⟨fn,h1,h2,h3⟩,hc⟩:=hc;have hJ:=hs.J;have :=hc G.bh w (first++args.map a.eval++captured).toList hJ.1 hJ.2 hs.fo hr.1 hr.2;refine⟨λf _=>Env.gd f,?_⟩;rw[Oper.semAt_eq _ _ _ (λc=>by simp_all),tn ho hf h1 h2 h3,Oper.uponIn_enter];refine⟨λh=>(by rw[Env.kj]at h;grind),mu (Calls.mono this ?_)⟩;grind
theorem YL {α:Type}{e:Nat}:∀{l:List (List α)},(∀zs,zs∈l->zs.length=e)->∀{i j:Nat}{zs:List α}{z:α},l[i]?=some zs->zs[j]?=some z->l.flatten[i*e+j]?=some z:=by
 intro l;induction l with
 |nil=>simp_all
 |cons y ys ih=>
  intro he i j zs z h1 h2;have hy:=he y (by simp);rw[mZ];cases i with
  |zero=>grind
  |succ i=>grind
theorem nH.RO {G:aZ}{B:Nat}{w':World}{v:Value}{r:fN}(h:nH G.bh B w' v r):aO {G with bh:=λb o=>G.bh b o\/(B<=b/\b<w'.heap.size)} w' v r.plain:=by
 have conv:∀{tL:Nat->Nat->Prop}{v:Value}{x:AV},(∀b o,tL b o->G.bh b o\/B<=b)->dh tL w' v x->dh (λb o=>G.bh b o\/(B<=b/\b<w'.heap.size)) w' v x:=λh1 h2=>h2.uD (λb o c hi hc=>⟨(h1 b o hi).imp id λh=>⟨h,World.block_lt_of_cell? w' _ hc⟩,hc⟩) λb es k hi hb=>⟨(h1 b 0 hi).imp id λh=>⟨h,(bq.1 hb).1⟩,hb⟩;cases r with
 |val x=>exact .p _ _ (conv (λb o h=>h) h)
 |fresh T bI xs=>refine .p _ _ ?_;obtain⟨ad,c,rfl,h|⟨b,off,cs,fr,-,-,-,-,-,-,h⟩⟩:=h;exact conv (λb o h=>h) h.2.2;grind
 |own rest T bI xss=>
  obtain⟨b,c,cs,fr,us,rfl,h1,h2,h3,h4,h5,h6,h7,h8,h9,h10⟩:=h;have hI:∀b' o,Yk G.bh B b b' o->G.bh b' o\/B<=b':=λb' o h=>h.imp id λh=>h.1;have Rw:dh (λb o=>G.bh b o\/(B<=b/\b<w'.heap.size)) w' (.slice (some ⟨b,0,none⟩) xss.length c) (.sl xss):=dh.OD (bI:=bI) h4 (λi ys hys=>(h5 ys (bP hys)).1) λi ys j y q1 q2=>by have q3:=YL (λzs hz=>(h5 zs hz).1) q1 q2;obtain⟨u,q4,q5⟩:=h9 _ _ q3;exact⟨u,(h5 ys (bP q1)).2 y (bP q2),by simp_all,.inr ⟨h1,h2⟩,conv hI q5⟩
  cases rest with
  |none=>exact .p _ _ Rw
  |some r=>obtain⟨g1,g2⟩:=h10 r rfl;refine .p _ _ (.eS (_::us) (_::r) (by grind) λi u x q1 q2=>?_);grind
 |vf x=>refine aO.uD (G:=bare (lq G.bh B)) h (λb o c hi hc=>⟨?_,hc⟩) (λb es k hi hb=>⟨hi.imp id λh=>⟨h,(bq.1 hb).1⟩,hb⟩) (λo b h=>by cases h) (λt r h=>by cases h) (λl k h=>by cases h) (λl k h=>by cases h) (λl k h=>by cases h);exact hi.imp id λh=>⟨h,World.block_lt_of_cell? w' _ hc⟩
theorem RP {v:Value}{g:FuncId}{first captured:List AV}(h:aO G w v (.p (.fn (.func g) first captured))):∃fs cs:List Value,v=.func (.func g) fs.toArray cs.toArray/\(fs.length=first.length/\∀(i:Nat)(c:Value)(x:AV),fs[i]?=some c->first[i]?=some x->dh G.bh w c x)/\(cs.length=captured.length/\∀(i:Nat)(c:Value)(x:AV),cs[i]?=some c->captured[i]?=some x->dh G.bh w c x):=by
 cases h with
 |p v x h=>
  cases h with
  |fn f fs cs first captured h1 h2 h3 h4=>grind
theorem ME {v:Value}{g:FuncId}{first captured:List FV}(h:aO G w v (.fn (.func g) first captured)):∃fs cs:List Value,v=.func (.func g) fs.toArray cs.toArray/\(fs.length=first.length/\∀(i:Nat)(c:Value)(x:FV),fs[i]?=some c->first[i]?=some x->aO G w c x)/\(cs.length=captured.length/\∀(i:Nat)(c:Value)(x:FV),cs[i]?=some c->captured[i]?=some x->aO G w c x):=by
 cases h with
 |fn f fs cs first captured h1 h2 h3 h4=>grind
theorem lS {cs ds:List Value}{xs ys:List FV}(h:cs.length=xs.length/\∀(i:Nat)(c:Value)(x:FV),cs[i]?=some c->xs[i]?=some x->aO G w c x)(h':ds.length=ys.length/\∀(i:Nat)(c:Value)(x:FV),ds[i]?=some c->ys[i]?=some x->aO G w c x):(cs++ds).length=(xs++ys).length/\∀(i:Nat)(c:Value)(x:FV),(cs++ds)[i]?=some c->(xs++ys)[i]?=some x->aO G w c x:=by grind
theorem VR (hs:bp E G S a w){f:Operand}{args:Array Operand}{types:Array TypeId}(ho:o.op=.call ⟨.value f,args,types⟩){KK:FuncId->List AV->Prop}(h:match S.val f with
 |.p (.fn (.func g) first captured)=>match FV.fQ (args.toList.map S.val)with|some xs=>KK g (first++xs++captured)|none=>False
 |.fn (.func g) first captured=>match FV.fQ (first++args.toList.map S.val++captured)with|some xs=>KK g xs|none=>False
 |_=>False):∃g first captured xs,a.eval f=.func (.func g) first captured/\KK g xs/\((first++args.map a.eval++captured).toList.length=xs.length/\∀(i:Nat)(c:Value)(x:AV),(first++args.map a.eval++captured).toList[i]?=some c->xs[i]?=some x->dh G.bh w c x):=by have hf:=aO.val hs f;generalize S.val f=vf at h hf;split at h;split at h;rename_i xs hxs;obtain⟨fs,cs,hv,h1,h2⟩:=RP hf;refine⟨_,fs.toArray,cs.toArray,_,hv,h,?_⟩;have h3:=vT (vT h1 (ni (tj hs args.toList) hxs)) h2;grind;simp_all;split at h;rename_i xs hxs;obtain⟨fs,cs,hv,h1,h2⟩:=ME hf;refine⟨_,fs.toArray,cs.toArray,_,hv,h,?_⟩;have h3:=ni (lS (lS h1 (tj hs args.toList)) h2) hxs;grind;simp_all;simp_all
theorem wp_callV (hs:bp E G S a w){f:Operand}{args:Array Operand}{types:Array TypeId}(ho:o.op=.call ⟨.value f,args,types⟩){K:FV->Prop}(h:zv E.C (S.val f) (args.toList.map S.val) K){next:Act->World->Prop}{Q:Exit->Act->World->Prop}(hn:∀x v G' w',K x->bp E G' S a w'->aO G' w' v x->next (a.put o.dst v) w'):AY E o a w next Q:=by obtain⟨g,first,captured,xs,hv,⟨R,hc,hk⟩,hr⟩:=VR hs ho (KK:=λg xs=>∃R,au E.C g xs R/\∀r,R r->K r.plain) (by unfold zv at h;omega);refine wp_call hs ho hv hr hc λr v w' hR hb hok=>?_;exact hn _ v _ w' (hk r hR) (hs.ext hb) hok.RO
theorem Fj (hs:bp E G S a w){K:FV->Prop}(h:ej E.C S o.op K){next:Act->World->Prop}{Q:Exit->Act->World->Prop}(hn:∀x v G' w',K x->bp E G' S a w'->aO G' w' v x->next (a.put o.dst v) w'):AY E o a w next Q:=by
 cases hop:o.op with
 |move x=>rw[hop]at h;simp only[ej,force_eq]at h;exact wp_of_yields hs (Yields.same (by simp[execOp,hop]) h (aO.val hs x)) hn
 |assign x=>rw[hop]at h;simp only[ej,force_eq]at h;exact wp_of_yields hs (Yields.same (by simp[execOp,hop]) h (aO.val hs x)) hn
 |pick c x y=>rw[hop]at h;exact wp_of_yields hs (OM hs hop h) hn
 |binOp op t x y yt=>rw[hop]at h;simp only[ej]at h;split at h;rename_i hy;exact wp_of_yields hs (OF hs hop hy h) hn;split at h;rename_i hy;exact wp_of_yields hs (OH hs hop hy h) hn;exact wp_of_yields hs (RN hs hop h) hn
 |unOp op t x=>rw[hop]at h;exact wp_of_yields hs (ON hs hop h) hn
 |convert src dst x=>rw[hop]at h;exact wp_of_yields hs (HD hs hop h) hn
 |makeInterface t x=>rw[hop]at h;exact wp_of_yields hs (xU hs hop h) hn
 |makeFunc fn first captured=>rw[hop]at h;simp only[ej,jS]at h;exact wp_of_yields hs (xg hs hop h) hn
 |build t parts=>rw[hop]at h;exact wp_of_yields hs (MB hs hop h) hn
 |buildSlice t len parts=>rw[hop]at h;exact wp_of_yields hs (Co hs hop h) hn
 |load t x=>rw[hop]at h;exact wp_of_yields hs (OL hs hop h) hn
 |nilCheck x=>rw[hop]at h;exact wp_of_yields hs (Ge hs hop h) hn
 |fieldAddr s x f=>rw[hop]at h;exact wp_of_yields hs (Eh hs hop h) hn
 |field s x f=>rw[hop]at h;exact wp_of_yields hs (My hs hop h) hn
 |indexAddr t x i=>rw[hop]at h;exact wp_of_yields hs (Ei hs hop h) hn
 |index t x i=>rw[hop]at h;exact wp_of_yields hs (Mz hs hop h) hn
 |lookup t x i ok=>rw[hop]at h;exact wp_of_yields hs (JL hs hop h) hn
 |slice t x lo hi mx=>
  rw[hop]at h;cases mx with
  |none=>exact wp_of_yields hs (MA hs hop h) hn
  |some m=>exact h.elim
 |extract x i=>rw[hop]at h;exact wp_of_yields hs (HE hs hop h) hn
 |call c=>
  rw[hop]at h;obtain⟨callee,args,types⟩:=c;cases callee with
  |value f=>exact wp_callV hs hop h hn
  |invoke r m=>exact h.elim
  |builtin b=>exact wp_of_yields hs (xV hs hop h) hn
 |_=>rw[hop]at h;exact h.elim
end
section
variable {E:Env}{G:aZ}{S:ag}{a:Act}{w:World}{o:Oper}
theorem kQ {d o:Nat}{cells:List FV}:∀{l:List (Nat×List FV)},Qv.getObj (dW d l) o=some cells->o≠d/\∃cs,Qv.getObj l o=some cs/\cells=FV.dJ d cs:=by
 intro l;induction l with
 |nil=>intro h;cases h
 |cons p l ih=>
  obtain⟨u,i⟩:=p;intro h;simp only[dW]at h;split at h;rename_i hb;obtain rfl:=aK hb;obtain⟨h1,cs,h2,h3⟩:=ih h;refine⟨h1,cs,?_,h3⟩;simp only[Qv.getObj];have :Nat.beq u o=false:=by cases hb:Nat.beq u o;rfl;simp_all
  simp_all;rename_i hb;simp only[Qv.getObj]at h⊢;grind
theorem kn {d o:Nat}{bs:List UInt8}:∀{l:List (Nat×List UInt8)},lI (BM d l) o=some bs->o≠d/\lI l o=some bs:=by
 intro l;induction l with
 |nil=>intro h;cases h
 |cons p l ih=>
  obtain⟨u,i⟩:=p;intro h;simp only[BM]at h;split at h;rename_i hb;obtain rfl:=aK hb;obtain⟨h1,h2⟩:=ih h;refine⟨h1,?_⟩;simp only[lI];have :Nat.beq u o=false:=by cases hb:Nat.beq u o;rfl;simp_all
  simp_all;rename_i hb;simp only[lI]at h⊢;grind
theorem oh {d o:Nat}{l:List (Nat×List FV)}(h:Qv.getObj l o=none):Qv.getObj (dW d l) o=none:=by
 cases h':Qv.getObj (dW d l) o with
 |none=>rfl
 |some cs=>obtain⟨-,cs',h2,-⟩:=kQ h';simp_all
theorem pg {α:Type}{d o:Nat}{x:α}:∀{l:List (Nat×α)},getM (Ae d l) o=some x->o≠d/\getM l o=some x:=by
 intro l;induction l with
 |nil=>intro h;cases h
 |cons p l ih=>
  obtain⟨u,i⟩:=p;intro h;simp only[Ae]at h;split at h;rename_i hb;obtain rfl:=aK hb;obtain⟨h1,h2⟩:=ih h;refine⟨h1,?_⟩;simp only[getM];have :Nat.beq u o=false:=by cases hb:Nat.beq u o;rfl;simp_all
  simp_all;rename_i hb;simp only[getM]at h⊢;grind
theorem lN.aet {G G':aZ}{S S':ag}{w:World}(d:Nat)(h1:S'.maps=(S.kill d).maps)(h2:S'.jg=(S.kill d).jg)(h3:lN (FV.kill d) G G' S (S.kill d) w):lN (FV.kill d) G G' S S' w:=⟨h3.p,λo l h=>h3.maps o l (h1▸h),λq x h=>h3.jg q x (h2▸h),h3.mp,h3.it,h3.aeo,h3.aep,h3.loc,h3.tail⟩
theorem vU {f:FV->FV}{o:Nat}{l':List (AV×FV)}:∀{ms:List (Nat×List (AV×FV))},getM (Am f ms) o=some l'->∃l,getM ms o=some l/\l'=uF f l:=by
 intro ms;induction ms with
 |nil=>intro h;cases h
 |cons p ms ih=>obtain⟨u,i⟩:=p;intro h;simp only[Am,getM]at h⊢;grind
def aZ.free (G:aZ)(d:Nat):aZ:={G with loc:=λo=>if o=d then none else G.loc o,tail:=λt=>if t=d then none else G.tail t,row:=λo=>if o=d then none else G.row o,mp:=λo=>if o=d then none else G.mp o,it:=λo=>if o=d then none else G.it o}
theorem lN.aeu {G G':aZ}{S:ag}{w:World}(d:Nat)(hi:∀b i es k,w.heap[b]?=some (.map es k)->(∃o,G'.mp o=some b)->G'.bh b i->G.bh b i)(hi':∀b,G.bh b 0->G'.bh b 0)(hmp:∀o b,o≠d->G.mp o=some b->G'.mp o=some b)(VS:∀o b,G'.mp o=some b->G.mp o=some b)(hit:∀o b,o≠d->G.it o=some b->G'.it o=some b)(VT:∀o b,G'.it o=some b->G.it o=some b)(hl:∀o b,G'.loc o=some b->G.loc o=some b)(ht:∀q r,G.tail (.inr q)=some r->G'.tail (.inr q)=some r:=by first|exactλ_ _ h=>h|exactλ_ _ h=>(aa (λe=>nomatch e)).trans h):lN (FV.kill d) G G' S (S.kill d) w:=by refine⟨λ_=>rfl,λo l' h=>?_,λq x h=>?_,VS,VT,hi,hi',λo b h=>.inl (hl o b h),ht⟩;obtain⟨l,h1,h2⟩:=vU h;obtain⟨h3,h4⟩:=pg h1;simp_all;obtain⟨h1,h2⟩:=pg h;simp_all
theorem lN.kill {G G':aZ}{S:ag}{w:World}(d:Nat)(hi:G'.bh=G.bh)(hmp:∀o b,o≠d->G.mp o=some b->G'.mp o=some b)(VS:∀o b,G'.mp o=some b->G.mp o=some b)(hit:∀o b,o≠d->G.it o=some b->G'.it o=some b)(VT:∀o b,G'.it o=some b->G.it o=some b)(hl:∀o b,G'.loc o=some b->G.loc o=some b)(ht:∀q r,G.tail (.inr q)=some r->G'.tail (.inr q)=some r:=by first|exactλ_ _ h=>h|exactλ_ _ h=>(aa (λe=>nomatch e)).trans h):lN (FV.kill d) G G' S (S.kill d) w:=.aeu d (λ_ _ _ _ _ _ h=>hi▸h) (λ_ h=>hi▸h) hmp VS hit VT hl ht
theorem aZ.om {G:aZ}{d:Nat}:(∀o b,o≠d->G.mp o=some b->(G.free d).mp o=some b)/\(∀o b,(G.free d).mp o=some b->G.mp o=some b)/\(∀o b,o≠d->G.it o=some b->(G.free d).it o=some b)/\(∀o b,(G.free d).it o=some b->G.it o=some b):=⟨λo b h h'=>by simp only[aZ.free];simp_all,λo b h=>by simp only[aZ.free]at h;simp_all,λo b h h'=>by simp only[aZ.free];simp_all,λo b h=>by simp only[aZ.free]at h;simp_all⟩
def lB (S:ag)(o:Nat)(t:Nm)(s:Nat):Prop:=t=o/\lI S.cz o=none/\∀cells,Qv.getObj S.aD o=some cells->cells.length=s
theorem lB.mono {S S':ag}{o:Nat}{t:Nm}{s:Nat}(h:lB S o t s)(hb:∀bs,lI S'.cz o=some bs->∃bs,lI S.cz o=some bs)(ho:∀cells,Qv.getObj S'.aD o=some cells->∃cs,Qv.getObj S.aD o=some cs/\cells.length=cs.length):lB S' o t s:=by
 obtain⟨h1,h2,h3⟩:=h;refine⟨h1,?_,λcells hc=>?_⟩;cases hq:lI S'.cz o with
 |none=>rfl
 |some bs=>simp_all
 grind
theorem lB.kill {S:ag}{o:Nat}{t:Nm}{s:Nat}(h:lB S o t s)(d:Nat):lB (S.kill d) o t s:=h.mono (λbs q=>⟨bs,(kn q).2⟩) λcells q=>by obtain⟨-,cs,h1,rfl⟩:=kQ q;exact⟨cs,h1,by rw[FV.fE,aj]⟩
theorem bp.aev (hs:bp E G S a w)(d:Nat){G':aZ}(hi:G'.bh=G.bh)(hl:∀o b,o≠d->G.loc o=some b->G'.loc o=some b)(ht:∀(t:Nm) r,t≠d->G.tail t=some r->G'.tail t=some r)(hl':∀o b,G'.loc o=some b->G.loc o=some b)(ht':∀t r,G'.tail t=some r->G.tail t=some r)(hrw:∀o,o≠d->G'.row o=G.row o)(aj1:∀o r,G'.row o=some r->G.row o=some r)(hy:∀l k,l≠d->G.yl l=some k->G'.yl l=some k:=by intro _ _ _ h;exact h)(hy':∀l k,G'.yl l=some k->G.yl l=some k:=by intro _ _ h;exact h)(hmp:∀o b,o≠d->G.mp o=some b->G'.mp o=some b:=by intro _ _ _ h;exact h)(VS:∀o b,G'.mp o=some b->G.mp o=some b:=by intro _ _ h;exact h)(hit:∀o b,o≠d->G.it o=some b->G'.it o=some b:=by intro _ _ _ h;exact h)(VT:∀o b,G'.it o=some b->G.it o=some b:=by intro _ _ h;exact h):bp E G' (S.kill d) a w:=by
 refine⟨hs.kept,hs.size,hs.ext'.move (FV.kill d) rfl rfl rfl (λv x h=>h.kill d hi hl (λt r h=>ht t r (Yj h)) hy hmp hit) (.refl _) (.kill d hi hmp VS hit VT hl' λq r h=>ht _ _ (λe=>nomatch e) h) hy',?_,hi▸hs.mX,hi▸hs.fo,λi hi'=>(hs.tmps i hi').kill d hi hl (λt r h=>ht t r (Yj h)) hy hmp hit,λo cells ho=>?_,λo b ho=>hi▸hs.gD o b (hl' o b ho),λo o' b h h'=>hs.eU o o' b (hl' _ _ h) (hl' _ _ h'),λo t b r h h'=>lB.kill (hs.ck o t b r (hl' _ _ h) (ht' _ _ h')) d,λt b s e T h=>hi▸hs.fS t b s e T (ht' _ _ h),λt t' b r r' h h'=>hs.dR t t' b r r' (ht' _ _ h) (ht' _ _ h')⟩;refine hs.iY.keep rfl rfl (λo bs q=>?_) (λo _ _ q=>oh q) aj1 (av _) (λ_ _ _ _ _ _=>rfl) (λ_ _ _=>rfl) (λ_ _ _ _ q=>hi▸q) (λ_ _ _ _ q=>hl' _ _ q) (λ_ _ t q _ e=>⟨t,q,ht' _ _ e⟩);obtain⟨q1,q2⟩:=kn q;obtain⟨-,b,q3,-⟩:=hs.iY.at_ o bs q2;simp_all;obtain⟨h1,cs,h2,rfl⟩:=kQ ho;obtain⟨b,h3,h4⟩:=hs.aD o cs h2;refine⟨b,hl o b h1 h3,λi x hx=>?_⟩;rw[FV.fE,aJ]at hx;cases hc:cs[i]?with
 |none=>simp_all
 |some y=>simp[hc]at hx;subst hx;obtain⟨c,h5,h6⟩:=h4 i y hc;exact⟨c,h5,h6.kill d hi hl (λt r h=>ht t r (Yj h)) hy hmp hit⟩
theorem bp.kill (hs:bp E G S a w)(d:Nat):bp E (G.free d) (S.kill d) a w:=hs.aev d rfl (λo b h h'=>by simp only[aZ.free];simp_all) (λt r h h'=>by simp only[aZ.free];simp_all) (λo b h=>by simp only[aZ.free]at h;simp_all) (λt r h=>by simp only[aZ.free]at h;simp_all) (λo h=>by simp only[aZ.free];simp_all) (λo r h=>by simp only[aZ.free]at h;simp_all) (hmp:=λo b h h'=>by simp only[aZ.free];simp_all) (VS:=λo b h=>by simp only[aZ.free]at h;simp_all) (hit:=λo b h h'=>by simp only[aZ.free];simp_all) (VT:=λo b h=>by simp only[aZ.free]at h;simp_all)
theorem tX (hs:bp E G S a w)(d:Nat)(hdn:iy d=false)(cs:List Value)(xs:List FV)(t:TypeId)(hr:∀(i:Nat)(x:FV),xs[i]?=some x->∃c,cs[i]?=some c/\aO G w c x):∃G',bp E G' {S.kill d with aD:=(d,FV.dJ d xs)::dW d S.aD} a (w.alloc (.cells cs.toArray t))/\G'.loc d=some w.heap.size/\G'.row d=none/\G'.tail d=none/\(∀t r,G'.tail t≠some (w.heap.size,r))/\(∀o,o≠d->G'.loc o≠some w.heap.size)/\(∀o,G'.row o≠some w.heap.size)/\(∀i,¬G'.bh w.heap.size i):=by
 have hb:Below w.heap.size w (w.alloc (.cells cs.toArray t)):=(Below.refl _ _).alloc (av _) _;have h1:=(hs.Oy hb λ_ _=>False).kill d;have keep:∀v x,aO G w v x->aO (aZ.free {G with bh:=λb o=>G.bh b o\/(w.heap.size<=b/\b<(w.alloc (.cells cs.toArray t)).heap.size/\False)} d) (w.alloc (.cells cs.toArray t)) v (x.kill d):=λv x hv=>by refine aO.kill (G:={G with bh:=λb o=>G.bh b o\/(w.heap.size<=b/\b<(w.alloc (.cells cs.toArray t)).heap.size/\False)}) d ?_ rfl (λo b h h'=>by simp only[aZ.free];simp_all) (λt r h h'=>by simp only[aZ.free];simp_all) (hmp:=λo b h h'=>by simp only[aZ.free];simp_all) (hit:=λo b h h'=>by simp only[aZ.free];simp_all);exact hv.keep (λb o h=>.inl h) (λb o c hi hc=>by rw[World.cell?_alloc_lt _ _ _ (hs.fo b o hi)];omega) (BZ _ _ _) (λ_ _ h=>h) (λ_ _ h=>h)
 have hlt:∀o b,(if o=d then none else G.loc o)=some b->b<w.heap.size:=λo b h=>by split at h;grind;exact(hs.gD o b h).1
 have VU:∀(t:Nm) b r,(if t=d then none else G.tail t)=some (b,r)->b<w.heap.size:=λt b r h=>by split at h;grind;obtain⟨s,e,T⟩:=r;exact(hs.fS t b s e T h).1
 let G2:aZ:={bh:=λb o=>G.bh b o\/(w.heap.size<=b/\b<(w.alloc (.cells cs.toArray t)).heap.size/\False),loc:=λo=>if o=d then some w.heap.size else G.loc o,tail:=λt=>if t=d then none else G.tail t,yl:=G.yl,row:=λo=>if o=d then none else G.row o,mp:=λo=>if o=d then none else G.mp o,it:=λo=>if o=d then none else G.it o};have up:∀{W:World}{v:Value}{x:FV},aO (aZ.free {G with bh:=λb o=>G.bh b o\/(w.heap.size<=b/\b<(w.alloc (.cells cs.toArray t)).heap.size/\False)} d) W v x->aO G2 W v x:=λh=>h.keep (λ_ _ h=>h) (λ_ _ _ _ h=>h) (.refl _ _) (λo b h=>by simp only[aZ.free]at h;grind) (λ_ _ h=>h);have hnew:∀b i,G.bh b i\/(w.heap.size<=b/\b<(w.alloc (.cells cs.toArray t)).heap.size/\False)->b≠w.heap.size:=λb i h e=>by rcases h with h|⟨_,_,h⟩;have :=hs.fo b i h;omega;omega
 have hsz:(w.alloc (.cells cs.toArray t)).heap.size=w.heap.size+1:=World.size_alloc w _;have Hv:lN (λx=>x) (aZ.free {G with bh:=λb o=>G.bh b o\/(w.heap.size<=b/\b<(w.alloc (.cells cs.toArray t)).heap.size/\False)} d) G2 (S.kill d) {S.kill d with aD:=(d,FV.dJ d xs)::dW d S.aD} (w.alloc (.cells cs.toArray t)):=by refine .more rfl rfl rfl rfl (λb i h=>.inl h) (λb h=>h) λo b h=>?_;simp only[G2]at h;split at h;obtain rfl:=ak h;refine .inr λes k e=>?_;rw[World.alloc_heap_new]at e;grind;rename_i hne;refine .inl ?_;simp only[aZ.free];simp_all
 have base:bp E G2 {S.kill d with aD:=(d,FV.dJ d xs)::dW d S.aD} a (w.alloc (.cells cs.toArray t)):=by
  refine⟨h1.kept,h1.size,h1.ext'.keep rfl rfl rfl (λv x h=>up h) (.refl _) (Hv:=Hv),?_,h1.mX,h1.fo,λi hi=>up (h1.tmps i hi),λo cells ho=>?_,λo b ho=>?_,λo o' b h h'=>?_,λo t b r h h'=>?_,λt b s e T h=>h1.fS t b s e T h,h1.dR⟩;refine h1.iY.keep rfl rfl (λo bs q=>?_) (λo bs q0 q=>?_) (λ_ _ e=>e) (av _) (λ_ _ _ _ _ _=>rfl) (λ_ _ _=>rfl) (λ_ _ _ _ e=>e) (λo r o' e q=>?_) (λ_ _ t q _ e=>⟨t,q,e⟩);obtain⟨q1,q2⟩:=kn (l:=S.cz) q;refine⟨q,?_,rfl⟩;simp only[G2,aZ.free];simp_all;simp only[Qv.getObj];split;rename_i OR;obtain rfl:=aK OR;exact absurd rfl (kn (l:=S.cz) q0).1;exact q;simp only[G2]at q;split at q;have :=(h1.iY.row o r e).2.1;have hlt:=(hs.iY.row o r (by simp only[aZ.free]at e;simp_all)).2.1;simp_all;rename_i hne;simp only[aZ.free];simp_all;simp only[Qv.getObj]at ho;split at ho;rename_i OR;obtain rfl:=aK OR;obtain rfl:=ak ho;refine⟨w.heap.size,by grind,λi x hx=>?_⟩;rw[FV.fE,aJ]at hx;cases hy:xs[i]?with
  |none=>simp_all
  |some y=>simp[hy]at hx;subst hx;obtain⟨c,hc1,YM⟩:=hr i y hy;simp_all
  rename_i OR;have hne:o≠d:=λe=>by simp_all
  obtain⟨b,h2,h3⟩:=h1.aD o cells ho;refine⟨b,?_,λi x hx=>let⟨c,h4,h5⟩:=h3 i x hx;⟨c,h4,up h5⟩⟩;simp only[aZ.free]at h2;grind;simp only[G2]at ho;split at ho;obtain rfl:=ak ho;refine⟨oO,.inl ⟨hs.kept.size,by simp_all⟩,λi=>⟨λh=>hnew _ _ h rfl,?_⟩⟩;simp_all;rename_i hne;exact h1.gD o b (by simp only[aZ.free];simp_all);simp only[G2]at h h';split at h<;>split at h';omega;grind;grind;rename_i h2 h3;exact h1.eU o o' b (by simp only[aZ.free];simp_all) (by simp only[aZ.free];simp_all);simp only[G2]at h h';split at h;grind;rename_i hne;exact lB.mono (h1.ck o t b r (by simp only[aZ.free];simp_all) h') (λbs q=>⟨bs,q⟩) λcells q=>by simp only[Qv.getObj]at q;split at q;simp_all;exact⟨cells,q,rfl⟩
 refine⟨G2,base,by grind,by grind,by grind,λt r h=>?_,λo hne h=>?_,λo h=>?_,λi h=>hnew _ _ h rfl⟩;grind;grind;simp only[G2]at h;split at h;grind;have :=(hs.iY.row o _ h).2.1;omega
theorem Cq (hs:bp E G S a w)(q:Nat)(hdn:iy (S.off+q)=false)(cs:List Value)(xs:List FV)(t:TypeId)(hr:xW G w cs xs):∃G',bp E G' (newObj S q xs) (a.put (some q) (.pointer (some ⟨w.heap.size,0,none⟩))) (w.alloc (.cells cs.toArray t))/\G'.loc (S.off+q)=some w.heap.size/\G'.row (S.off+q)=none/\∀t r,G'.tail t≠some (w.heap.size,r):=by
 obtain⟨G',h1,h2,h3,-,h5,-⟩:=tX hs (S.off+q) hdn cs xs t λi x hx=>by
  have hl:i<cs.length:=by rw[hr.1];exact(aG.1 hx).1
  exact⟨cs[i],an hl,hr.2 i _ x (an hl) hx⟩
 exact⟨G',h1.put (some q) (v:=.pointer (some ⟨w.heap.size,0,none⟩)) (x:=.ptr (S.off+q) 0) (.ptr _ 0 _ h2),h2,h3,h5⟩
theorem bp.ahj {d b:Nat}{cells:List FV}{rest:List (Nat×List FV)}(hs:bp E G S a w)(ho:S.aD=(d,cells)::dW d rest)(hl:G.loc d=some b)(hr:G.row d=none)(htd:∀t r,G.tail t≠some (b,r))(hw:w.heap[b]?=some (.cells #[.pointer none,.slice none 0 0] E.C.bT (0,0))):bp E G {S with aD:=dW d rest,cz:=(d,[])::S.cz} a w:=by
 have hout:∀o,o≠d->Qv.getObj S.aD o=Qv.getObj (dW d rest) o:=λo hne=>by rw[ho];simp only[Qv.getObj];split;simp_all;rfl
 have hd:Qv.getObj (dW d rest) d=none:=by
  cases h':Qv.getObj (dW d rest) d with
  |none=>rfl
  |some cs=>exact absurd rfl (kQ h').1
 refine⟨hs.kept,hs.size,hs.ext'.keep rfl rfl rfl (λ_ _ h=>h) (.refl _),⟨λo bs q=>?_,hs.iY.row,hs.iY.cM⟩,hs.mX,hs.fo,hs.tmps,λo cs q=>?_,hs.gD,hs.eU,λo t b' r q1 q2=>?_,hs.fS,hs.dR⟩;simp only[lI]at q;split at q;rename_i OR;obtain rfl:=aK OR;obtain rfl:=ak q;refine⟨hd,b,hl,?_⟩;rw[hr];exact⟨none,.slice none 0 0,.inl rfl,hw,rfl,rfl⟩;rename_i OR;obtain⟨q1,q2⟩:=hs.iY.at_ o bs q;grind;refine hs.aD o cs ?_;grind;have hne:o≠d:=by grind
 refine lB.mono (hs.ck o t b' r q1 q2) (λbs q=>?_) λcells q=>⟨cells,by simp_all,rfl⟩;simp only[lI]at q;split at q;simp_all;simp_all
theorem bp.Uu {o b:Nat}{bs:List UInt8}{row':Option Nat}{Uv:List (Nat×List UInt8)}{w':World}(hs:bp E G S a w)(ho:lI S.cz o=some bs)(hl:G.loc o=some b)(hfz:∃p v,w'.heap[b]?=some (.cells #[p,v] E.C.bT (0,0)))(hrow:row'=G.row o\/row'=none\/∃x,row'=some x/\w.heap.size<=x/\x<w'.heap.size)(alv:∀r,row'=some r->∃cs T fr,w'.heap[r]?=some (.cells cs T fr))(hos:w'.os=w.os)(OS:w'.tape=w.tape)(hout:w'.output=w.output)(hsz:w.heap.size<=w'.heap.size)(hblk:∀k,k<w.heap.size->k≠b->G.row o≠some k->w'.heap[k]?=w.heap[k]?)(hbl:∀q bs',lI Uv q=some bs'->(q=o/\xG E.C w' b row' bs')\/(q≠o/\lI S.cz q=some bs')):bp E {G with row:=λq=>if q=o then row' else G.row q} {S with cz:=Uv} a w'/\∀v x,aO G w v x->aO {G with row:=λq=>if q=o then row' else G.row q} w' v x:=by
 obtain⟨OT,b0,hl0,rL⟩:=hs.iY.at_ o bs ho;rw[hl]at hl0;obtain rfl:=ak hl0;obtain⟨l1,l2,l3⟩:=hs.gD o b hl;have BX:∀k i,G.bh k i->w'.heap[k]?=w.heap[k]?:=λk i h=>hblk k (hs.fo k i h) (λe=>(l3 i).1 (e▸h)) (λe=>(hs.iY.row o k e).2.2.1 i h);have fJ:∀q k,q≠o->G.loc q=some k->w'.heap[k]?=w.heap[k]?:=λq k hne h=>hblk k (hs.gD q k h).1 (λe=>hne (hs.eU q o k h (e▸hl))) (λe=>(hs.iY.row o k e).2.2.2.1 q h);have ahc:∀t k r,G.tail t=some (k,r)->w'.heap[k]?=w.heap[k]?:=λt k r h=>hblk k (hs.fS t k r.1 r.2.1 r.2.2 h).1 (λe=>by have :=(hs.ck o t b r hl (e▸h)).2.1;simp_all) (λe=>(hs.iY.row o k e).2.2.2.2.1 t r h);have hrows:∀q k,q≠o->G.row q=some k->w'.heap[k]?=w.heap[k]?:=λq k hne h=>hblk k (hs.iY.row q k h).2.1 (λe=>(hs.iY.row q k h).2.2.2.1 o (e▸hl)) (λe=>hne ((hs.iY.row o k e).2.2.2.2.2 q h));have cell:∀k i,w'.heap[k]?=w.heap[k]?->w'.cell? ⟨k,i,none⟩=w.cell? ⟨k,i,none⟩:=λk i h=>by unfold World.cell?;simp_all
 have amC:∀k i,w'.heap[k]?=w.heap[k]?->w'.frozen? ⟨k,i,none⟩=w.frozen? ⟨k,i,none⟩:=λk i h=>by unfold World.frozen?;simp_all
 have keep:∀v x,aO G w v x->aO {G with row:=λq=>if q=o then row' else G.row q} w' v x:=λv x h=>h.keep (λ_ _ h=>h) (λk i c hi hc=>by grind) (λk es n hi hb=>by grind) (λ_ _ h=>h) (λ_ _ h=>h);have others:fU w w':=λk ob hk hc=>by rw[hblk k (bq.1 hk).1 (λe=>?_) (λe=>?_)];omega;subst e;obtain⟨p,v,-,h2,-⟩:=rL;rw[h2]at hk;obtain rfl:=ak hk;simp[Obj.isCells]at hc;obtain⟨p,v,-,-,h3⟩:=rL;rw[e]at h3;obtain⟨-,cap,cur,-,h4,-⟩:=h3;rw[h4]at hk;obtain rfl:=ak hk;simp[Obj.isCells]at hc
 refine⟨⟨⟨hos.trans hs.kept.os,OS.trans hs.kept.tape,hout.trans hs.kept.output,bL hs.kept.size hsz,λk hk hk'=>?_,λk cs T fr hk q=>?_⟩,hs.size,hs.ext'.keep rfl rfl rfl keep others,⟨λq bs' hq=>?_,λq r hq=>?_,λq r hq=>?_⟩,hs.mX,λk i h=>en (hs.fo k i h) hsz,λi hi=>keep _ _ (hs.tmps i hi),λq cs hq=>?_,λq k hq=>?_,hs.eU,λq t k r q1 q2=>?_,λt k s e T h=>?_,hs.dR⟩,keep⟩;rw[hblk k (en hk hs.kept.size) (λe=>E.Mv l2 hk hk' e) (λe=>by rcases(hs.iY.row o k e).1 with h|h;omega;exact hk' (E.hrows _ h.2))];exact hs.kept.block k hk hk';obtain⟨cs',q1,q2⟩:=hs.kept.shape k cs T fr hk q;by_cases hkb:k=b;subst hkb;obtain⟨p,v,-,q3,-⟩:=rL;grind;have hne:G.row o≠some k:=λe=>by obtain⟨o2,hk⟩:=hk;have hko:=E.Fi _ hk;rcases(hs.iY.row o k e).1 with h|h;grind;grind
 grind;rcases hbl q bs' hq with⟨rfl,h⟩|⟨hne,h⟩;simp_all;obtain⟨h1,k,h2,h3⟩:=hs.iY.at_ q bs' h;refine⟨h1,k,h2,?_⟩;simp only[aa hne];exact h3.keep (fJ q k hne h2) (λr e=>hrows q r hne e);simp only at hq;have old:∀q r,G.row q=some r->(q=o\/q≠o)->(E.w0.heap.size<=r\/(q=999999/\r∈E.rows))/\r<w'.heap.size/\(∀i,¬G.bh r i)/\(∀o',G.loc o'≠some r)/\(∀t q,G.tail t≠some (r,q)):=λq r h _=>by obtain⟨h1,h2,h3,h4,h5,-⟩:=hs.iY.row q r h;grind
 by_cases hqo:q=o;subst hqo;rw[af rfl]at hq;rcases hrow with h|h|⟨x,h,hx,hx'⟩;obtain⟨h1,h2,h3,h4,h5⟩:=old q r (h▸hq) (.inl rfl);refine⟨h1,h2,h3,h4,h5,λo' ho'=>?_⟩;simp only at ho';split at ho';omega;exact(hs.iY.row q r (h▸hq)).2.2.2.2.2 o' ho';simp_all;rw[h]at hq;obtain rfl:=ak hq;refine⟨.inl (bL hs.kept.size hx),hx',λi hi=>by grind,λo' e=>by grind,λt q e=>by grind,λo' ho'=>?_⟩;grind;rw[aa hqo]at hq;obtain⟨h1,h2,h3,h4,h5⟩:=old q r hq (.inr hqo);refine⟨h1,h2,h3,h4,h5,λo' ho'=>?_⟩;simp only at ho';split at ho';rename_i e;rcases hrow with h|h|⟨x,h,hx,hx'⟩;rw[e];exact((hs.iY.row q r hq).2.2.2.2.2 o (h▸ho'));grind;grind;exact(hs.iY.row q r hq).2.2.2.2.2 o' ho';simp only at hq;split at hq;simp_all;rename_i hne;rw[hrows q r hne hq];exact hs.iY.cM q r hq;obtain⟨k,h1,h2⟩:=hs.aD q cs hq;grind;obtain⟨h1,h2,h3⟩:=hs.gD q k hq;refine⟨en h1 hsz,h2,λi=>⟨(h3 i).1,?_⟩⟩;by_cases hne:q=o;subst hne;rw[hl]at hq;obtain rfl:=ak hq;obtain⟨p,v,hb⟩:=hfz;simp[World.frozen?,hb];grind;have hq:=hs.ck q t k r q1 q2;refine lB.mono hq (λbs q3=>?_) λcells q3=>⟨cells,q3,rfl⟩;grind;obtain⟨h1,h2,⟨cs,fr,h3,hu⟩,h4⟩:=hs.fS t k s e T h;grind
theorem YN {ob o:Nat}{c bs:List UInt8}:∀{l:List (Nat×List UInt8)},lI (Yl l ob c) o=some bs->(o=ob/\bs=c)\/(o≠ob/\lI l o=some bs):=by
 intro l;induction l with
 |nil=>intro h;cases h
 |cons p l ih=>obtain⟨u,i⟩:=p;intro h;simp only[Yl]at h;split at h;rename_i hb;obtain rfl:=aK hb;simp only[lI]at h⊢;split at h;simp_all;grind;rename_i hb;simp only[lI]at h⊢;grind
theorem gQ (b:Nat):∀(vs:List Value)(i:Nat)(w:World)(k:Nat),k≠b->(w.setCells b i vs).heap[k]?=w.heap[k]?|[],_,_,_,_=>rfl|v::r,i,w,k,h=>by rw[World.setCells,gQ b r _ _ k h];exact Below.heap_setCell _ _ _ _ h
theorem jy (b:Nat):∀(vs:List Value)(i:Nat)(w:World),(w.setCells b i vs).heap.size=w.heap.size|[],_,_=>rfl|v::r,i,w=>by rw[World.setCells,jy b r];simp
theorem Au (b:Nat):∀(vs:List Value)(i:Nat)(w:World),(w.setCells b i vs).os=w.os/\(w.setCells b i vs).tape=w.tape/\(w.setCells b i vs).output=w.output|[],_,_=>⟨rfl,rfl,rfl⟩|v::r,i,w=>by rw[World.setCells];exact Au b r _ _
theorem tq (b:Nat):∀(vs:List Value)(i:Nat)(w:World)(k:Nat)(cs:Array Value)(T:TypeId)(fr:Nat×Nat),w.heap[k]?=some (.cells cs T fr)->∃cs',(w.setCells b i vs).heap[k]?=some (.cells cs' T fr)/\cs'.size=cs.size
 |[],_,_,_,cs,_,_,h=>⟨cs,h,rfl⟩
 |v::r,i,w,k,cs,T,fr,h=>by
  rw[World.setCells];by_cases hk:k=b;subst hk;have :∃cs',(w.setCell ⟨k,i,none⟩ v).heap[k]?=some (.cells cs' T fr)/\cs'.size=cs.size:=by simp only[World.setCell,jk,h];simp
  obtain⟨c1,h1,h2⟩:=this;obtain⟨c2,h3,h4⟩:=tq k r _ _ k c1 T fr h1;exact⟨c2,h3,h4.trans h2⟩;exact tq b r _ _ k cs T fr (by rw[Below.heap_setCell _ _ _ _ hk];omega)
theorem Kept.setCells {own:List Nat}{qU:List (Nat×Nat)}{w0 w:World}(h:Kept own qU w0 w){b:Nat}(hb:w0.heap.size<=b\/b∈own)(i:Nat)(vs:List Value):Kept own qU w0 (w.setCells b i vs):=by obtain⟨h1,h2,h3⟩:=Au b vs i w;refine⟨h1.trans h.os,h2.trans h.tape,h3.trans h.output,by rw[jy];exact h.size,λk hk hk'=>?_,λk cs T fr hk q=>?_⟩;rw[gQ b vs i w k (λe=>by grind)];exact h.block k hk hk';obtain⟨cs',q1,q2⟩:=h.shape k cs T fr hk q;obtain⟨cs2,q3,q4⟩:=tq b vs i w k cs' T fr q1;simp_all
theorem fU.setCells (b:Nat):∀(vs:List Value)(i:Nat)(w:World),fU w (w.setCells b i vs)|[],_,w=>.refl w|v::r,i,w=>by rw[World.setCells];refine fU.trans (λk o hk ho=>?_) (fU.setCells b r _ _);exact(KeepsOthers.setCell w _ v).same k o hk ho
theorem jA {p:Nat×Nat->Prop}(b:Nat):∀(vs:List Value)(i:Nat)(w:World)(k:Nat)(T:TypeId),(∃cs fr,w.heap[k]?=some (.cells cs T fr)/\p fr)->∃cs fr,(w.setCells b i vs).heap[k]?=some (.cells cs T fr)/\p fr|[],_,_,_,_,h=>h|v::r,i,w,k,T,h=>by rw[World.setCells];refine jA b r _ _ k T ?_;obtain⟨cs,fr,h,hp⟩:=h;by_cases hk:k=b;subst hk;refine⟨cs.setIfInBounds i v,fr,?_,hp⟩;simp only[World.setCell,jk,h];simp;exact⟨cs,fr,by rw[Below.heap_setCell _ _ _ _ hk];omega,hp⟩
theorem qu {ob o:Nat}{cs cells:List FV}:∀{l:List (Nat×List FV)},Qv.getObj (setObj l ob cs) o=some cells->(o=ob/\cells=cs)\/(o≠ob/\Qv.getObj l o=some cells):=by
 intro l;induction l with
 |nil=>intro h;cases h
 |cons p l ih=>obtain⟨u,i⟩:=p;intro h;simp only[setObj]at h;split at h;rename_i hb;obtain rfl:=aK hb;simp only[Qv.getObj]at h⊢;split at h;simp_all;grind;rename_i hb;simp only[Qv.getObj]at h⊢;grind
theorem xY (hs:bp E G S a w){ob off b:Nat}{cells zs:List FV}{x:FV}{v:Value}(vo:Qv.getObj S.aD ob=some cells)(fJ:G.loc ob=some b)(hv:aO G w v x)(h1:jQ x.cells=true)(AX:gE cells off x.cells=some zs):bp E G {S with aD:=setObj S.aD ob zs} a (w.setCells b off v.cells.toList)/\(storeCells ⟨b,off,none⟩ v.cells.toList 0).run E.C.P w=.ok () (w.setCells b off v.cells.toList):=by
 obtain⟨OP,hco⟩:=qq hv h1;obtain⟨g1,g2,g3⟩:=qK AX;obtain⟨b',hb',hc⟩:=hs.aD ob cells vo;obtain rfl:b'=b:=by simp_all
 obtain⟨l1,l2,l3⟩:=hs.gD ob b' fJ;have hin:∀j,j<v.cells.toList.length->(w.cell? ⟨b',off+j,none⟩).isSome=true:=λj hj=>by
  rw[OP.1]at hj;have hne:x.cells≠[]:=by grind
  have :=g2 hne;have hl:off+j<cells.length:=oO
  obtain⟨c,h2,-⟩:=hc (off+j) _ (an hl);simp_all
 have hrun:=run_storeCells_cells (P:=E.C.P) b' off v.cells.toList 0 w oO (λj _=>(l3 _).2) hco;simp only[vQ]at hrun;refine⟨?_,hrun⟩;have hout:∀b2 i,b2≠b'->(w.setCells b' off v.cells.toList).cell? ⟨b2,i,none⟩=w.cell? ⟨b2,i,none⟩:=λb2 i hne=>World.cell?_setCells_out b' _ off w ⟨b2,i,none⟩ (λe=>absurd e hne);have keep:∀u y,aO G w u y->aO G (w.setCells b' off v.cells.toList) u y:=λu y hu=>by refine hu.keep (λ_ _ h=>h) (λb2 i c hi hc=>?_) ((fU.setCells b' _ _ _).oV _) (λ_ _ h=>h) (λ_ _ h=>h);grind
 have hsz:=jy b' v.cells.toList off w;have hfz:∀x,(w.setCells b' off v.cells.toList).frozen? x=w.frozen? x:=λx=>World.frozen?_setCells b' _ off w x;refine⟨hs.kept.setCells (E.BU l2) _ _,hs.size,hs.ext'.keep rfl rfl rfl keep (.setCells b' _ _ _),?_,hs.mX,λb o h=>by rw[hsz];exact hs.fo b o h,λi hi=>keep _ _ (hs.tmps i hi),λo cs ho=>?_,λo b ho=>?_,hs.eU,λo t b r q1 q2=>?_,λt b s e T h=>?_,hs.dR⟩;refine hs.iY.keep rfl rfl (λo bs q=>⟨q,rfl,rfl⟩) (λo bs _ q=>?_) (λ_ _ e=>e) oO (λo bs b q q2 e=>gQ _ _ _ _ _ (λe2=>?_)) (λo r e=>gQ _ _ _ _ _ (λe2=>(hs.iY.row o r e).2.2.2.1 ob (e2▸fJ))) (λ_ _ _ _ e=>e) (λ_ _ _ _ e=>e) (λ_ _ t q _ e=>⟨t,q,e⟩);cases h':Qv.getObj (setObj S.aD ob zs) o with
 |none=>rfl
 |some cs=>rcases qu h' with⟨rfl,-⟩|⟨-,h2⟩;simp_all;simp_all
 have :=hs.eU o ob b e (e2▸fJ);simp_all;rcases qu ho with⟨rfl,rfl⟩|⟨hne,ho⟩;refine⟨b',fJ,λi y hy=>?_⟩;rw[g3 i]at hy;by_cases hi:off<=i/\i<off+x.cells.length;rw[af hi]at hy;have hj:i-off<v.cells.toList.length:=by rw[OP.1];omega
 have h2:=World.cell?_setCells_in b' v.cells.toList off w hin (i-off) hj;rw[show off+(i-off)=i from oO]at h2;exact⟨_,h2,keep _ _ (OP.2 (i-off) _ y (an hj) hy)⟩;rw[aa hi]at hy;obtain⟨c,h2,h3⟩:=hc i y hy;refine⟨c,?_,keep _ _ h3⟩;rw[World.cell?_setCells_out b' _ off w ⟨b',i,none⟩ (λ_ _=>by rw[OP.1];grind)];omega;obtain⟨b2,h2,h3⟩:=hs.aD o cs ho;have AZ:b2≠b':=λe=>hne (hs.eU o ob b2 h2 (e▸fJ));grind;obtain⟨k1,k2,k3⟩:=hs.gD o b ho;simp_all;refine lB.mono (hs.ck o t b r q1 q2) (λbs q=>⟨bs,q⟩) λcs q=>?_;rcases qu q with⟨rfl,rfl⟩|⟨-,q⟩;simp_all;simp_all;obtain⟨k1,k2,kt,k3⟩:=hs.fS t b s e T h;refine⟨oO,k2,jA _ _ _ _ _ _ kt,λi hi hi'=>?_⟩;obtain⟨⟨c,k4⟩,k5,k6⟩:=k3 i hi hi';refine⟨?_,by simp_all,k6⟩;by_cases AZ:b=b'/\off<=i/\i<off+v.cells.toList.length;obtain⟨rfl,h5,h6⟩:=AZ;have h7:=World.cell?_setCells_in b v.cells.toList off w hin (i-off) oO;simp_all;refine⟨c,?_⟩;rw[World.cell?_setCells_out b' _ off w ⟨b,i,none⟩ (λe1 e2=>by grind)];omega
end
section
variable {E:Env}{G:aZ}{S:ag}{a:Act}{w:World}{o:Oper}
structure Flat (bh:Nat->Nat->Prop)(w:World)(e:Nat)(ys:List (List AV))(news:List Value):Prop where
 len:news.length=ys.length*e
 one:∀u,u∈news->u.oneCell'=true
 at_:∀(i:Nat)(zs:List AV)(j:Nat)(z:AV),ys[i]?=some zs->zs[j]?=some z->∃u,news[i*e+j]?=some u/\dh bh w u z/\z.one=true
theorem vV {P:Program}{bh:Nat->Nat->Prop}{ys:List (List AV)}{v:Value}{e:Nat}(h:dh bh w v (.sl ys))(he:∀zs,zs∈ys->zs.length=e):∃news,Flat bh w e ys news/\(Builtin.lenOf v).run P w=.ok ys.length w/\∀w',(∀b o,w'.cell? ⟨b,o,none⟩=w.cell? ⟨b,o,none⟩)->(Builtin.firstCells e ys.length v).run P w'=.ok news.toArray w':=by
 obtain⟨ad,c,rfl,hc,hne⟩:=h.kP;by_cases h0:ys=[];subst h0;refine⟨[],⟨by simp,by simp,by simp⟩,by rfl,λw' _=>?_⟩;cases ad<;>simp[Builtin.firstCells,loadCells,loadCellsFrom];obtain⟨b,off,bI,cell,rfl,g1,g2⟩:=hne h0;have hpos:0<ys.length:=vM.2 h0;obtain rfl:bI=e:=(g1 0 _ (an hpos)).symm.trans (he _ (aT hpos));let f:Nat->Value:=λq=>(w.cell? ⟨b,off+q,none⟩).getD undef;have hq:∀q,q<ys.length*bI->∃zs z,ys[q/bI]?=some zs/\zs[q%bI]?=some z/\z.one=true/\w.cell? ⟨b,off+q,none⟩=some (f q)/\dh bh w (f q) z:=λq hq=>by
  have hep:0<bI:=by rcases Nat.eq_zero_or_pos bI with h|h;simp_all;omega
  have hi:q/bI<ys.length:=Cr (by grind);have hzs:=an hi;have hl:=g1 _ _ hzs;have hj:q%bI<(ys[q/bI]).length:=by rw[hl];exact pn _ hep
  obtain⟨k1,k2,k3,k4⟩:=g2 _ _ _ _ hzs (an hj);have hqe:off+q/bI*bI+q%bI=off+q:=by have :=Nat.div_add_mod q bI;rw[vW]at this;omega
  rw[hqe]at k2;have hf:f q=cell (q/bI) (q%bI):=by simp only[f,k2,vX]
  exact⟨_,_,hzs,an hj,k1,by simp_all,by simp_all⟩
 refine⟨(List.range (ys.length*bI)).map f,⟨by simp,λu hu=>?_,λi zs j z hi hj=>?_⟩,by rfl,λw' hw=>?_⟩;obtain⟨q,MF,rfl⟩:=aB.1 hu;obtain⟨zs,z,-,-,k1,-,k2⟩:=hq q (fA.1 MF);exact k2.YB k1;have BL:=(aG.1 hi).1;have hjl:=(aG.1 hj).1;rw[g1 i zs hi]at hjl;have hlt:i*bI+j<ys.length*bI:=by have :(i+1)*bI<=ys.length*bI:=ew _ BL;rw[bC]at this;omega
 obtain⟨k1,k2,k3,k4⟩:=g2 _ _ _ _ hi hj;have hf:f (i*bI+j)=cell i j:=by simp only[f,<-fK,k2,vX]
 simp_all;have :=run_loadCells (P:=P) w' ⟨b,off,none⟩ (ys.length*bI) f (λq MF=>by rw[Addr.add_lit,hw];grind);simpa[Builtin.firstCells]using this
theorem Fk {P:Program}{bh:Nat->Nat->Prop}{s:List UInt8}{e:Nat}(he:∀zs,zs∈(s.map λ(b:UInt8)=>[AV.int .u8 (b.toNat:Int)])->zs.length=e):∃news,Flat bh w e (s.map λ(b:UInt8)=>[AV.int .u8 (b.toNat:Int)]) news/\(Builtin.lenOf (.string ⟨s.toArray⟩)).run P w=.ok (s.map λ(b:UInt8)=>[AV.int .u8 (b.toNat:Int)]).length w/\∀w',(Builtin.firstCells e (s.map λ(b:UInt8)=>[AV.int .u8 (b.toNat:Int)]).length (.string ⟨s.toArray⟩)).run P w'=.ok news.toArray w':=by
 have he1:s≠[]->e=1:=λh=>by
  cases s with
  |nil=>simp_all
  |cons b s=>simp_all
 have hsz:(⟨s.toArray⟩:ByteArray).size=s.length:=by simp[ByteArray.size]
 refine⟨s.map λb=>.int .u8 b.toNat,⟨?_,λu hu=>?_,λi zs j z hi hj=>?_⟩,by simp[Builtin.lenOf,hsz],λw'=>?_⟩;by_cases h0:s=[];grind;simp_all;obtain⟨b,-,rfl⟩:=aB.1 hu;rfl;rw[aJ]at hi;cases hb:s[i]?with
 |none=>simp_all
 |some b=>
  simp[hb]at hi;subst hi;have hne:s≠[]:=by grind
  cases j with
  |succ j=>simp_all
  |zero=>simp at hj;subst hj;refine⟨.int .u8 b.toNat,?_,.int _ _,rfl⟩;simp_all
 have hx:(⟨s.toArray⟩:ByteArray).extract 0 s.length=⟨s.toArray⟩:=by rw[As s 0 s.length (av _)];simp
 simp[Builtin.firstCells,hx]
section
variable {P:Program}
theorem mw {t u elem ty:TypeId}{d:TypeDesc}{n c:Nat}{base:Option Addr}{yv:Value}{i:jE}(ht:P.underlying t=some (.slice elem))(hu:P.underlying u=some d)(hd:∀k,d≠.int k)(hi:fO P elem i)(hl:(Builtin.lenOf yv).run P w=.ok 0 w)(hf:(Builtin.firstCells i.size 0 yv).run P w=.ok #[] w)(hc:n<=c):(Builtin.append_ #[t,u] ty #[.slice base n c,yv]).run P w=.ok (.slice base n c) w:=by
 have hd':(match d with|.int _=>true|_=>false)=false:=by cases d<;>first|rfl|grind
 cases base<;>simp[Builtin.append_,run_underlying ht,run_underlying hu,hi.sizeOf,hd',hl,hf,hc,storeCells]
theorem nj {t u elem ty:TypeId}{d:TypeDesc}{n c m b off:Nat}{yv:Value}{i:jE}{news:List Value}(ht:P.underlying t=some (.slice elem))(hu:P.underlying u=some d)(hd:∀k,d≠.int k)(hi:fO P elem i)(hl:(Builtin.lenOf yv).run P w=.ok m w)(hf:(Builtin.firstCells i.size m yv).run P w=.ok news.toArray w)(hc:n+m<=c)(hcell:∀j,j<news.length->(w.cell? ⟨b,off+n*i.size+j,none⟩).isSome=true)(hfz:∀j,j<news.length->w.frozen? ⟨b,off+n*i.size+j,none⟩=false)(h1:∀u,u∈news->u.oneCell'=true):(Builtin.append_ #[t,u] ty #[.slice (some ⟨b,off,none⟩) n c,yv]).run P w=.ok (.slice (some ⟨b,off,none⟩) (n+m) c) (w.setCells b (off+n*i.size) news):=by
 have hd':(match d with|.int _=>true|_=>false)=false:=by cases d<;>first|rfl|grind
 have hst:=run_storeCells_cells (P:=P) b (off+n*i.size) news 0 w oO oO h1;simp only[vQ]at hst;simp[Builtin.append_,run_underlying ht,run_underlying hu,hi.sizeOf,hd',hl,hf,hc,Addr.add_lit,hst]
theorem iM {t u elem ty:TypeId}{d:TypeDesc}{n c m:Nat}{base:Option Addr}{yv:Value}{i:jE}{olds news:List Value}(ht:P.underlying t=some (.slice elem))(hu:P.underlying u=some d)(hd:∀k,d≠.int k)(hi:fO P elem i)(hl:(Builtin.lenOf yv).run P w=.ok m w)(hf:∀w',(∀b o,w'.cell? ⟨b,o,none⟩=w.cell? ⟨b,o,none⟩)->(Builtin.firstCells i.size m yv).run P w'=.ok news.toArray w')(ho:∀w',(∀b o,w'.cell? ⟨b,o,none⟩=w.cell? ⟨b,o,none⟩)->(Builtin.firstCells i.size n (.slice base n c)).run P w'=.ok olds.toArray w')(hc:¬n+m<=c)(hb:(n+m)*i.bytes<=2^47)(hb0:i.bytes≠0):∃rest z,z.size=i.size/\rest=Builtin.zeroCells z (grownCap w (n+m) c elem-(n+m))/\(Builtin.append_ #[t,u] ty #[.slice base n c,yv]).run P w=.ok (.slice (some ⟨w.heap.size,0,none⟩) (n+m) (grownCap w (n+m) c elem)) (w.drew.alloc (.cells (olds.toArray++news.toArray++rest) elem)):=by
 have hd':(match d with|.int _=>true|_=>false)=false:=by cases d<;>first|rfl|grind
 obtain⟨inf,z,Cm,hsz,hby,hz,Gz⟩:=hi.info';refine⟨_,z.cells,by rw[<-jj,Gz,hi.len],rfl,?_⟩;have hfit:=growslice_fits (need:=n+m) (old:=c) (bytes:=i.bytes) oO oO;have Uw:n+m<=2^47:=bL (Nat.le_mul_of_pos_right _ (vY hb0)) hb;have amE:¬(((n+m:Nat):Int)>IntKind.i64.max):=by simp only[IntKind.max,IntKind.signed,IntKind.bits,if_true];omega
 have h48:¬Builtin.nextslicecap (n+m) c*i.bytes>2^48:=oO
 have hfw:=hf w.drew (λ_ _=>rfl);have how:=ho w.drew (λ_ _=>rfl);have Us:∀w',(typeInfo elem).run P w'=.ok inf w':=λw'=>run_typeInfo w' Cm;have hzv:∀w',(zeroValue elem).run P w'=.ok z w':=λw'=>by simp[zeroValue,Us w',hz]
 have hso:∀w',(Go.sizeOf elem).run P w'=.ok i.size w':=λw'=>hi.sizeOf w';have aj3:¬(281474976710656<Builtin.nextslicecap (n+m) c*i.bytes):=oO
 simp[Builtin.append_,run_underlying ht,run_underlying hu,hso,hd',hl,hc,Us,hby,hb0,aj3,Question.forced,how,hfw,hzv,newRow,grownCap];grind
end
theorem aO.items {y:FV}{v:Value}{ys:List (List AV)}{P:Program}{e:Nat}(hy:y.items=some ys)(h:aO G w v y)(he:∀zs,zs∈ys->zs.length=e):∃news,Flat G.bh w e ys news/\(Builtin.lenOf v).run P w=.ok ys.length w/\∀w',(∀b o,w'.cell? ⟨b,o,none⟩=w.cell? ⟨b,o,none⟩)->(Builtin.firstCells e ys.length v).run P w'=.ok news.toArray w':=by
 cases y with
 |p x=>
  cases x with
  |str s=>
   have hys:(s.map λ(b:UInt8)=>[AV.int .u8 (b.toNat:Int)])=ys:=by simpa[FV.items]using hy
   subst hys;obtain rfl:=h.jL;obtain⟨news,h1,h2,h3⟩:=Fk (P:=P) (w:=w) (bh:=G.bh) he;grind
  |_=>exact vV (h.elems (by simpa[FV.items]using hy)) he
 |_=>exact vV (h.elems (by simpa[FV.items]using hy)) he
theorem bp.xZ (hs:bp E G S a w){t:Nm}{B s e:Nat}{T:TypeId}(h0:G.tail t=none)(h1:B<w.heap.size)(h2:E.w0.heap.size<=B)(hty:∃cs fr,w.heap[B]?=some (.cells cs T fr)/\acf t fr)(h3:∀o,G.loc o=some B->lB S o t s)(h4:∀t' r,G.tail t'≠some (B,r))(h6:∀o,G.row o≠some B)(h5:∀i,s<=i->i<e->(∃c,w.cell? ⟨B,i,none⟩=some c)/\w.frozen? ⟨B,i,none⟩=false/\¬G.bh B i):bp E {G with tail:=λt'=>if t'=t then some (B,s,e,T)else G.tail t'} S a w:=by
 have up:∀v x,aO G w v x->aO {G with tail:=λt'=>if t'=t then some (B,s,e,T)else G.tail t'} w v x:=λv x h=>h.keep (λ_ _ h=>h) (λ_ _ _ _ h=>h) (.refl _ _) (λ_ _ h=>h) (λt' r h=>by grind);have Hv:lN (λx=>x) G {G with tail:=λt'=>if t'=t then some (B,s,e,T)else G.tail t'} S S w:=lN.same rfl rfl rfl rfl rfl rfl λq r h=>by grind
 refine⟨hs.kept,hs.size,hs.ext'.keep rfl rfl rfl up (.refl _) (Hv:=Hv),hs.iY.keep rfl rfl (λo bs q=>⟨q,rfl,rfl⟩) (λ_ _ _ q=>q) (λ_ _ e=>e) (av _) (λ_ _ _ _ _ _=>rfl) (λ_ _ _=>rfl) (λ_ _ _ _ e=>e) (λ_ _ _ _ e=>e) (λo r t' q e e'=>?_),hs.mX,hs.fo,λi hi=>up _ _ (hs.tmps i hi),λo cells ho=>?_,hs.gD,hs.eU,λo t' b r h h'=>?_,λt' b s' e' T' h=>?_,λt1 t2 b r1 r2 h h'=>?_⟩;grind;obtain⟨b,k1,k2⟩:=hs.aD o cells ho;grind;simp only at h';split at h';rename_i ht;have :=ak h';injection this with q1 q2;subst q1;subst q2;subst ht;exact h3 o h;exact hs.ck o t' b r h h';simp only at h;split at h;simp_all;exact hs.fS t' b s' e' T' h;simp only at h h';split at h<;>split at h';simp_all;simp_all;simp_all;exact hs.dR t1 t2 b r1 r2 h h'
theorem bp.zB (hs:bp E G S a w){t:Nm}{B s e:Nat}{T:TypeId}(h0:G.tail t=none)(h1:B<w.heap.size)(h2:E.w0.heap.size<=B)(hty:∃cs fr,w.heap[B]?=some (.cells cs T fr)/\acf t fr)(h3:∀o,G.loc o≠some B)(h4:∀t' r,G.tail t'≠some (B,r))(h6:∀o,G.row o≠some B)(h5:∀i,s<=i->i<e->(∃c,w.cell? ⟨B,i,none⟩=some c)/\w.frozen? ⟨B,i,none⟩=false/\¬G.bh B i):bp E {G with tail:=λt'=>if t'=t then some (B,s,e,T)else G.tail t'} S a w:=hs.xZ h0 h1 h2 hty (λo h=>(h3 o h).elim) h4 h6 h5
theorem bp.YO (hs:bp E G S a w){k b s0 e0:Nat}{T:TypeId}{news:List Value}(ht:G.tail k=some (b,s0,e0,T))(hn:s0+news.length<=e0):bp E {(G.free k)with bh:=λb' o=>G.bh b' o\/(b'=b/\s0<=o/\o<s0+news.length)} (S.kill k) a (w.setCells b s0 news)/\(∀v x,aO G w v x->aO {(G.free k)with bh:=λb' o=>G.bh b' o\/(b'=b/\s0<=o/\o<s0+news.length)} (w.setCells b s0 news) v (x.kill k))/\(∀b' i c,G.bh b' i->w.cell? ⟨b',i,none⟩=some c->(w.setCells b s0 news).cell? ⟨b',i,none⟩=some c):=by
 obtain⟨t1,t2,⟨tcs,tfr,tty,ttu⟩,t3⟩:=hs.fS k b s0 e0 T ht;have hcell:∀b' i c,G.bh b' i->w.cell? ⟨b',i,none⟩=some c->(w.setCells b s0 news).cell? ⟨b',i,none⟩=some c:=λb' i c hi hc=>by rw[World.cell?_setCells_out b news s0 w ⟨b',i,none⟩ (λe _=>by grind)];omega
 have hout:∀b2 i,b2≠b->(w.setCells b s0 news).cell? ⟨b2,i,none⟩=w.cell? ⟨b2,i,none⟩:=λb2 i hne=>World.cell?_setCells_out b _ s0 w ⟨b2,i,none⟩ (λe=>absurd e hne);have hfz:∀x,(w.setCells b s0 news).frozen? x=w.frozen? x:=λx=>World.frozen?_setCells b _ s0 w x;have hsz:=jy b news s0 w;have up:∀v x,aO G w v x->aO {(G.free k)with bh:=λb' o=>G.bh b' o\/(b'=b/\s0<=o/\o<s0+news.length)} (w.setCells b s0 news) v (x.kill k):=λv x hv=>by refine aO.kill (G:={G with bh:=λb' o=>G.bh b' o\/(b'=b/\s0<=o/\o<s0+news.length)}) k ?_ rfl (λo b h h'=>by simp only[aZ.free];simp_all) (λt r h h'=>by simp only[aZ.free];simp_all) (hmp:=aZ.om.1) (hit:=aZ.om.2.2.1);exact hv.keep (λ_ _ h=>.inl h) hcell ((fU.setCells b _ _ _).oV _) (λ_ _ h=>h) (λ_ _ h=>h)
 have uK:∀o b',(G.free k).loc o=some b'->o≠k/\G.loc o=some b':=λo b' h=>by simp only[aZ.free]at h;simp_all
 have OU:∀t r,(G.free k).tail t=some r->t≠k/\G.tail t=some r:=λt r h=>by simp only[aZ.free]at h;simp_all
 have Hv:lN (FV.kill k) G {(G.free k)with bh:=λb' o=>G.bh b' o\/(b'=b/\s0<=o/\o<s0+news.length)} S (S.kill k) w:=.aeu k (λb' i es n hb _ h=>h.elim id λh=>by simp_all) (λ_ h=>.inl h) aZ.om.1 aZ.om.2.1 aZ.om.2.2.1 aZ.om.2.2.2 (λo b h=>(uK o b h).2);refine⟨⟨hs.kept.setCells (.inl t2) _ _,hs.size,hs.ext'.move (S':=S.kill k) (FV.kill k) rfl rfl rfl up (.setCells _ _ _ _) Hv,?_,?_,?_,λi hi=>up _ _ (hs.tmps i hi),λo cells ho=>?_,λo b' ho=>?_,λo o' b' h h'=>hs.eU o o' b' (uK _ _ h).2 (uK _ _ h').2,λo t b' r h h'=>lB.kill (hs.ck o t b' r (uK _ _ h).2 (OU _ _ h').2) k,λt b' s e T' h=>?_,λt t' b' r r' h h'=>hs.dR t t' b' r r' (OU _ _ h).2 (OU _ _ h').2⟩,up,hcell⟩;refine hs.iY.keep rfl rfl (λo bs q=>?_) (λo _ _ q=>oh q) (λo r e=>?_) oO (λo bs b2 q q2 e=>gQ _ _ _ _ _ (λe2=>by have :=(hs.ck o k b _ (e2▸e) ht).2.1;simp_all)) (λo r e=>gQ _ _ _ _ _ (λe2=>(hs.iY.row o r e).2.2.2.2.1 k _ (e2▸ht))) (λo r i e hi=>?_) (λ_ _ o' _ e=>(uK o' _ e).2) (λ_ _ t q _ e=>⟨t,q,(OU t _ e).2⟩);obtain⟨q1,q2⟩:=kn q;refine⟨q2,?_,?_⟩;simp only[aZ.free];simp_all;simp only[aZ.free];simp_all;simp only[aZ.free]at e;simp_all;rcases hi with hi|⟨rfl,-,-⟩;omega;exact absurd ht ((hs.iY.row o _ e).2.2.2.2.1 k _);rintro b' o (hi|⟨rfl,-,-⟩);exact hs.mX b' o hi;omega;rintro b' o (hi|⟨rfl,-,-⟩);rw[hsz];exact hs.fo b' o hi;omega;obtain⟨hne,cs,h2,rfl⟩:=kQ ho;obtain⟨b',h3,h4⟩:=hs.aD o cs h2;refine⟨b',by simp only[aZ.free];simp_all,λi x hx=>?_⟩;rw[FV.fE,aJ]at hx;cases hc:cs[i]?with
 |none=>simp_all
 |some y=>simp[hc]at hx;subst hx;obtain⟨c,h5,h6⟩:=h4 i y hc;have hb:b'≠b:=λe=>hne (vu (hs.ck o k b _ (e▸h3) ht).1.symm);simp_all
 obtain⟨hne,ho⟩:=uK o b' ho;obtain⟨k1,k2,k3⟩:=hs.gD o b' ho;have hb:b'≠b:=λe=>hne (vu (hs.ck o k b _ (e▸ho) ht).1.symm);simp_all;obtain⟨hne,h⟩:=OU t _ h;obtain⟨k1,k2,kt,k3⟩:=hs.fS t b' s e T' h;have hb:b'≠b:=λe'=>hne (hs.dR t k b _ _ (e'▸h) ht);refine⟨oO,k2,jA _ _ _ _ _ _ kt,λi hi hi'=>?_⟩;simp_all
theorem uL (G:aZ)(k:Nat):(G.free k).tail k=none:=by simp[aZ.free]
theorem ya {bh:Nat->Nat->Prop}{W:World}{b off e c:Nat}{xs:List (List AV)}(hc:xs.length<=c)(hl:∀zs,zs∈xs->zs.length=e)(h:∀(i:Nat)(zs:List AV)(j:Nat)(z:AV),xs[i]?=some zs->zs[j]?=some z->∃u,z.one=true/\W.cell? ⟨b,off+(i*e+j),none⟩=some u/\bh b (off+(i*e+j))/\dh bh W u z):dh bh W (.slice (some ⟨b,off,none⟩) xs.length c) (.sl xs):=dh.OD hc (λi ys hys=>hl _ (bP hys)) λi ys j y h1 h2=>by grind
theorem OV (hs:bp E G S a w){k:Nat}{xs ys:List (List AV)}{ad:Option Addr}{c:Nat}{yv:Value}{t u elem ty:TypeId}{dd:TypeDesc}{i:jE}{news:List Value}(ht:E.C.P.underlying t=some (.slice elem))(hu:E.C.P.underlying u=some dd)(hd:∀k,dd≠.int k)(hi:fO E.C.P elem i)(hx:dh G.bh w (.slice ad xs.length c) (.sl xs))(JM:∀zs,zs∈xs->zs.length=i.size)(yb:∀zs,zs∈ys->zs.length=i.size)(hle:xs.length<=c)(hroom:(xs=[]/\c=0)\/(ys≠[]/\c=xs.length)\/∃b off,ad=some ⟨b,off,none⟩/\G.tail k=some (b,off+xs.length*i.size,off+c*i.size,elem))(hn:Flat G.bh w i.size ys news)(hl:(Builtin.lenOf yv).run E.C.P w=.ok ys.length w)(hf:∀w',(∀b o,w'.cell? ⟨b,o,none⟩=w.cell? ⟨b,o,none⟩)->(Builtin.firstCells i.size ys.length yv).run E.C.P w'=.ok news.toArray w')(hb:(xs.length+ys.length)*i.bytes<=2^47)(hb0:i.bytes≠0):∃v' w' G',(Builtin.append_ #[t,u] ty #[.slice ad xs.length c,yv]).run E.C.P w=.ok v' w'/\bp E G' (S.kill k) a w'/\aO G' w' v' (.gi k elem i.size (xs++ys)):=by
 by_cases h0:ys=[];subst h0;have hnews:news=[]:=cO.1 (by rw[hn.len];simp);subst hnews;refine⟨_,w,G,mw ht hu hd hi hl (hf w λ_ _=>rfl) hle,hs.aev k rfl (λ_ _ _ h=>h) (λ_ _ _ h=>h) (λ_ _ h=>h) (λ_ _ h=>h) (λ_ _=>rfl) (λ_ _ h=>h),?_⟩;have :=aO.gi (G:=G) (w:=w) k elem i.size xs ad c hx (hroom.imp id λh=>by simp_all);simp_all;have hm:0<ys.length:=by grind
 by_cases hc:xs.length+ys.length<=c;rcases hroom with hroom|hroom|⟨b,off,rfl,VU⟩;omega;omega;obtain⟨t1,t2,tt,t3⟩:=hs.fS _ _ _ _ _ VU;have hq:off+xs.length*i.size+news.length<=off+c*i.size:=by have :=ew i.size hc;rw[bC]at this;rw[hn.len];omega
 have hrun:=nj (P:=E.C.P) (w:=w) (ty:=ty) (b:=b) (off:=off) ht hu hd hi hl (hf w λ_ _=>rfl) hc (λj hj=>by obtain⟨⟨u,hu⟩,-,-⟩:=t3 (off+xs.length*i.size+j) oO oO;simp_all) (λj hj=>(t3 (off+xs.length*i.size+j) oO oO).2.1) hn.one;obtain⟨f1,f2,f3⟩:=hs.YO (news:=news) VU hq;have hg:=f1.zB (t:=k) (B:=b) (s:=off+xs.length*i.size+news.length) (e:=off+c*i.size) (T:=elem) (uL G k) (by rw[jy];omega) t2 (jA _ _ _ _ _ _ tt) (λo h=>by simp only[aZ.free]at h;split at h;cases h;rename_i hne;exact hne (vu (hs.ck o k b _ h VU).1.symm)) (λt' r h=>by simp only[aZ.free]at h;split at h;grind;rename_i hne;exact hne (hs.dR t' k b _ _ h VU)) (λo h=>by simp only[aZ.free]at h;split at h;cases h;exact(hs.iY.row o b h).2.2.2.2.1 k _ VU) (λj hj hj'=>by obtain⟨⟨u,hu⟩,g2,g3⟩:=t3 j oO oO;refine⟨⟨u,?_⟩,by rw[World.frozen?_setCells];omega,?_⟩;rw[World.cell?_setCells_out b news _ w ⟨b,j,none⟩ (λ_ _=>by simp_all)];omega;simp_all);refine⟨_,_,_,hrun,hg,?_⟩;have hlen:(xs++ys).length=xs.length+ys.length:=ay;suffices h:aO _ (w.setCells b (off+xs.length*i.size) news) (.slice (some ⟨b,off,none⟩) (xs++ys).length c) (.gi k elem i.size (xs++ys))by rw[hlen]at h;exact h
 refine .gi k elem i.size (xs++ys) _ c ?_ (.inr ⟨b,off,rfl,λzs hz=>(bf.1 hz).elim (JM zs) (yb zs),?_⟩);refine ya oO (λzs hz=>(bf.1 hz).elim (JM zs) (yb zs)) λp zs j z hp hj=>?_;have hjl:j<i.size:=by have h1:=(aG.1 hj).1;have h2:zs∈xs++ys:=bP hp;rw[(bf.1 h2).elim (JM zs) (yb zs)]at h1;exact h1
 rw[vZ]at hp;by_cases VV:p<xs.length;rw[af VV]at hp;obtain⟨_,_,hv,-,hne⟩:=hx.kP;obtain⟨b2,off2,bI,cell,rfl,g1,g2⟩:=hne (λe=>by simp_all);injection hv with e1 e2 e3;have e1:=ak e1;injection e1 with q1 q2;subst q1;subst q2;obtain rfl:bI=i.size:=(g1 p _ hp).symm.trans (JM _ (bP hp));obtain⟨k1,k2,k3,k4⟩:=g2 _ _ _ _ hp hj;rw[fK]at k2 k3;exact⟨_,k1,f3 _ _ _ k3 k2,.inl k3,k4.keep (λ_ _ h=>.inl h) f3 ((fU.setCells b _ _ _).oV _)⟩;rw[aa VV]at hp;obtain⟨u,k1,k2,k3⟩:=hn.at_ _ _ _ _ hp hj;have Ye:(p-xs.length)*i.size+j<news.length:=(aG.1 k1).1;have YP:off+(p*i.size+j)=off+xs.length*i.size+((p-xs.length)*i.size+j):=by
  have :p=xs.length+(p-xs.length):=oO
  have h2:p*i.size=xs.length*i.size+(p-xs.length)*i.size:=by rw[<-bC,<-this]
  omega
 have hin:=World.cell?_setCells_in b news (off+xs.length*i.size) w (λq MF=>by obtain⟨⟨u,hu⟩,-,-⟩:=t3 (off+xs.length*i.size+q) oO oO;simp_all) _ Ye;refine⟨u,k3,?_,.inr ⟨rfl,oO,oO⟩,k2.keep (λ_ _ h=>.inl h) f3 ((fU.setCells b _ _ _).oV _)⟩;simp_all;simp only[if_true];rw[hn.len,hlen,bC,fK];obtain⟨olds,KJ,-,YQ⟩:=vV (P:=E.C.P) hx JM;obtain⟨rest,z,hz,qe,hrun⟩:=iM (P:=E.C.P) (w:=w) (ty:=ty) (base:=ad) (news:=news) (olds:=olds) ht hu hd hi hl hf YQ hc hb hb0;have hcap:xs.length+ys.length<=grownCap w (xs.length+ys.length) c elem:=grownCap_ge w _ _ _;generalize hcg:grownCap w (xs.length+ys.length) c elem=cap at*;generalize hW:w.drew.alloc (.cells (olds.toArray++news.toArray++rest) elem)=W at*;have Gg:Below w.drew.heap.size w.drew W:=by rw[<-hW];exact(Below.refl _ _).alloc (av _) _
 have hWs:W.heap.size=w.heap.size+1:=by rw[<-hW];simp
 have hrl:rest.size=(cap-(xs.length+ys.length))*i.size:=by rw[qe,size_zeroCells,hz]
 have hcell:∀q,W.cell? ⟨w.heap.size,q,none⟩=(olds.toArray++news.toArray++rest)[q]?:=λq=>by rw[<-hW];exact World.cell?_alloc_new w.drew _ elem q
 have hfz:∀q,W.frozen? ⟨w.heap.size,q,none⟩=false:=λq=>by rw[<-hW];exact World.frozen?_alloc_new w.drew _ elem q
 have hold:∀b q,b<w.heap.size->W.cell? ⟨b,q,none⟩=w.cell? ⟨b,q,none⟩:=λb q hlt=>by rw[<-hW];exact World.cell?_alloc_lt w.drew _ ⟨b,q,none⟩ hlt
 have h1:=(hs.drew.Oy (w':=W) Gg (λb q=>b=w.heap.size/\q<(xs.length+ys.length)*i.size)).kill k;have hg:=h1.zB (t:=k) (B:=w.heap.size) (s:=(xs.length+ys.length)*i.size) (e:=cap*i.size) (T:=elem) (uL _ k) oO hs.kept.size (by rw[<-hW];exact⟨_,_,World.alloc_heap_new w.drew _,trivial⟩) (λo h=>by simp only[aZ.free]at h;split at h;grind;have :=(hs.gD o _ h).1;omega) (λt' r h=>by simp only[aZ.free]at h;split at h;grind;have :=(hs.fS t' _ r.1 r.2.1 r.2.2 h).1;omega) (λo h=>by simp only[aZ.free]at h;split at h;grind;have :=(hs.iY.row o _ h).2.1;omega) (λq hq MF=>by
  refine⟨?_,hfz q,?_⟩;rw[hcell q];have :q<(olds.toArray++news.toArray++rest).size:=by simp only[Array.size_append,List.size_toArray,KJ.len,hn.len,hrl,<-bC];rw[show xs.length+ys.length+(cap-(xs.length+ys.length))=cap from oO];exact MF
  simp_all;rintro(h|⟨-,-,-,h⟩);have :=hs.fo _ _ h;omega;omega);refine⟨_,W,_,hrun,hg,?_⟩;have hlen:(xs++ys).length=xs.length+ys.length:=ay;suffices h:aO _ W (.slice (some ⟨w.heap.size,0,none⟩) (xs++ys).length cap) (.gi k elem i.size (xs++ys))by rw[hlen]at h;exact h
 have hkeep:∀{u:Value}{z:AV},dh G.bh w u z->dh (λb o=>G.bh b o\/(w.drew.heap.size<=b/\b<W.heap.size/\b=w.heap.size/\o<(xs.length+ys.length)*i.size)) W u z:=λh=>h.keep (λ_ _ h=>.inl h) (λb o c hi hc=>by rw[hold b o (hs.fo b o hi)];omega) (λb es n hi hb=>(Gg.block b (hs.fo b 0 hi)).trans hb);refine .gi k elem i.size (xs++ys) _ cap ?_ (.inr ⟨w.heap.size,0,rfl,λzs hz=>(bf.1 hz).elim (JM zs) (yb zs),?_⟩);refine ya oO (λzs hz=>(bf.1 hz).elim (JM zs) (yb zs)) λp zs j z hp hj=>?_;have hjl:j<i.size:=by have h1:=(aG.1 hj).1;have h2:zs∈xs++ys:=bP hp;rw[(bf.1 h2).elim (JM zs) (yb zs)]at h1;exact h1
 have VV:p<xs.length+ys.length:=by rw[<-hlen];exact(aG.1 hp).1
 have afh:p*i.size+j<(xs.length+ys.length)*i.size:=by have :(p+1)*i.size<=(xs.length+ys.length)*i.size:=ew _ VV;rw[bC]at this;omega
 rw[dn];have BX:(λb o=>G.bh b o\/(w.drew.heap.size<=b/\b<W.heap.size/\b=w.heap.size/\o<(xs.length+ys.length)*i.size)) w.heap.size (p*i.size+j):=.inr ⟨av _,oO,rfl,afh⟩;rw[vZ]at hp;by_cases YR:p<xs.length;rw[af YR]at hp;obtain⟨u,k1,k2,k3⟩:=KJ.at_ _ _ _ _ hp hj;have Ye:=(aG.1 k1).1;refine⟨u,k3,?_,BX,hkeep k2⟩;grind;rw[aa YR]at hp;obtain⟨u,k1,k2,k3⟩:=hn.at_ _ _ _ _ hp hj;have Ye:=(aG.1 k1).1;have YP:p*i.size+j=olds.length+((p-xs.length)*i.size+j):=by
  have :p=xs.length+(p-xs.length):=oO
  have h2:p*i.size=xs.length*i.size+(p-xs.length)*i.size:=by rw[<-bC,<-this]
  rw[KJ.len];omega
 refine⟨u,k3,?_,BX,hkeep k2⟩;rw[hcell,rW (by simp_all),MG (by simp_all),YP];simp[k1];simp_all
theorem bp.afi (h1:bp E G S a w){d b:Nat}(hdn:iy d=false){cells:List FV}(hl:G.loc d=none)(hb0:lI S.cz d=none)(hno:∀o,G.loc o≠some b)(VU:∀t r,G.tail t≠some (b,r))(hrow:∀o,G.row o≠some b)(hmap:∀es k,w.heap[b]?≠some (.map es k))(hlt:b<w.heap.size)(hw0:E.w0.heap.size<=b)(him:∀i,¬G.bh b i/\w.frozen? ⟨b,i,none⟩=false)(hc:∀(i:Nat)(x:FV),cells[i]?=some x->∃c,w.cell? ⟨b,i,none⟩=some c/\aO G w c x):bp E {G with loc:=λo=>if o=d then some b else G.loc o} {S with aD:=(d,cells)::S.aD} a w:=by have up:∀v x,aO G w v x->aO {G with loc:=λo=>if o=d then some b else G.loc o} w v x:=λv x h=>h.keep (λ_ _ h=>h) (λ_ _ _ _ h=>h) (.refl _ _) (λo b' h=>by grind) (λ_ _ h=>h);refine⟨h1.kept,h1.size,h1.ext'.keep rfl rfl rfl up (.refl _) (Hv:=.more rfl rfl rfl rfl (λ_ _ h=>.inl h) (λ_ h=>h) λo b' h=>?_),?_,h1.mX,h1.fo,λi hi=>up _ _ (h1.tmps i hi),λo cs ho=>?_,λo b' ho=>?_,λo o' b' h h'=>?_,λo t b' r h h'=>?_,h1.fS,h1.dR⟩;grind;refine h1.iY.keep rfl rfl (λo bs q=>⟨q,?_,rfl⟩) (λo bs q0 q=>?_) (λ_ _ e=>e) (av _) (λ_ _ _ _ _ _=>rfl) (λ_ _ _=>rfl) (λ_ _ _ _ e=>e) (λo r o' e q=>?_) (λ_ _ t q _ e=>⟨t,q,e⟩);grind;simp only[Qv.getObj];split;simp_all;omega;grind;simp only[Qv.getObj]at ho;split at ho;rename_i OR;obtain rfl:=aK OR;grind;rename_i OR;have hne:o≠d:=cU (bJ OR);obtain⟨b',h2,h3⟩:=h1.aD o cs ho;grind;simp only at ho;split at ho;rename_i e;obtain rfl:=ak ho;exact⟨hlt,.inl ⟨hw0,by simp_all⟩,him⟩;exact h1.gD o b' ho;simp only at h h';split at h<;>split at h';omega;simp_all;simp_all;exact h1.eU o o' b' h h';simp only at h h';split at h;simp_all;rename_i hne;refine lB.mono (h1.ck o t b' r h h') (λbs q=>⟨bs,q⟩) λcs q=>?_;simp only[Qv.getObj]at q;split at q;simp_all;simp_all
theorem iQ:∀l:List AV,(aI l).length=l.length|[]=>rfl|_::l=>by simp[aI,iQ l]
theorem uM:∀(l:List AV)(i:Nat),(aI l)[i]?=(l[i]?).map FV.p
 |[],i=>by rfl
 |x::l,0=>rfl
 |x::l,i+1=>by simpa[aI]using uM l i
theorem gG {α:Type}{e:Nat}:∀{l:List (List α)},(∀zs,zs∈l->zs.length=e)->l.flatten.length=l.length*e
 |[],_=>by simp
 |x::l,h=>by rw[mZ,ay,h x (by simp),gG (λzs hz=>h zs (by grind)),aS,bC];omega
theorem kR (d:Nat)(l:List (Nat×List UInt8)):lI (BM d l) d=none:=by
 cases h:lI (BM d l) d with
 |none=>rfl
 |some bs=>exact absurd rfl (kn h).1
end
section
variable {E:Env}{G:aZ}{S:ag}{a:Act}{w:World}{o:Oper}
theorem ack {α:Type}{xs:List α}{n:Nat}{y:α}(h:n<xs.length):JC xs n y=some (xs.set n y):=by
 induction xs generalizing n with
 |nil=>grind
 |cons x xs ih=>
  cases n with
  |zero=>rfl
  |succ n=>simp only[JC,ih (by simpa using h),List.set_cons_succ]
theorem Cs {α:Type}{A B:List α}{base:Nat}(hA:A.length=base):∀{cs ys zs:List α}{off:Nat},gE ys off cs=some zs->gE (A++(ys++B)) (base+off) cs=some (A++(zs++B))
 |[],ys,zs,off,h=>by simp only[gE,bF]at h⊢;rw[h]
 |c::cs,ys,zs,off,h=>by simp only[gE]at h⊢;split at h;rename_i us YH;obtain⟨h1,rfl⟩:=KH YH;rw[ack (by grind)];simp only;rw[List.set_append_right _ _ oO,hA,show base+off-base=off by omega,List.set_append_left _ _ h1];exact Cs hA h;simp_all
theorem HI (hs:bp E G S a w){t e:TypeId}{len:Nat}{parts:Array (Nat×Operand)}{j:jE}{cs:List FV}{sa sb:Nat}{sz:List Value}(ho:o.op=.buildSlice t len parts)(ht:bK E.C.jh t=some ⟨sa,sb,.slice e,sz⟩)(hj:bK E.C.jh e=some j)(hle':len*j.size<=1000000)(hcs:fR j.size S parts.toList (nS len (j.zero.map FV.gT))=some cs):∃us:Array Value,(execOp a.eval o).run E.C.P w=.ok (.value (.slice (some ⟨w.heap.size,0,none⟩) len len)) (w.alloc (.cells us e))/\xW G w us.toList cs/\us.size=len*j.size:=by
 have hu:=(E.C.ok ht).slice;have hok:=E.C.ok hj;obtain⟨z,hzr,Gz⟩:=hok.zeroV w;have ajY:z.cells.size=j.size:=by rw[<-jj,Gz,hok.len]
 have hbase:∀zz:Array Value,(len*j.size=0\/zz=z.cells)->((Array.range (len*j.size)).map (zz[·%zz.size]!)).toList=nS len j.zero:=λzz hzz=>by obtain⟨r1,r2⟩:=pe j.zero len;rw[hok.len]at r1 r2;apply gU;grind
 have hrl:∀zz:Array Value,(len*j.size=0\/zz=z.cells)->xW G w ((Array.range (len*j.size)).map (zz[·%zz.size]!)).toList (nS len (j.zero.map FV.gT)):=λzz hzz=>by rw[hbase zz hzz,HG];exact qt _
 obtain⟨us,YH,nO⟩:∃us,(∀zz:Array Value,(len*j.size=0\/zz=z.cells)->Instr.fill (λi=>some (i*j.size,j.size)) ((Array.range (len*j.size)).map (zz[·%zz.size]!)) (parts.toList.map λ(i,x)=>(i,a.eval x))=some us)/\xW G w us.toList cs:=by obtain⟨us,h3,h4⟩:=rC hs parts.toList _ _ _ (hrl z.cells (.inr rfl)) hcs;grind
 have YI:¬len*j.size>2^24:=oO
 have hrun:(execOp a.eval o).run E.C.P w=.ok (.value (.slice (some ⟨w.heap.size,0,none⟩) len len)) (w.alloc (.cells us e)):=by
  by_cases h0:len*j.size=0;have h5:=YH #[] (.inl h0);have h5':Instr.fill (λi=>some (i*j.size,j.size)) #[] (List.map (λx=>(x.1,a.eval x.2)) parts.toList)=some us:=by
   have h6:(Array.range (len*j.size)).map ((#[]:Array Value)[·%(#[]:Array Value).size]!)=#[]:=by rw[h0];simp
   rw[h6]at h5;exact h5
  have hm0:∀f:Nat->Value,(Array.range 0).map f=#[]:=λf=>by simp
  simp only[execOp,ho,Instr.buildSlice,Sem.run_bind,run_underlying hu,Result.andThen_ok,hok.sizeOf,YI,if_false,h0,if_true,Sem.run_pure,ng];simp only[show¬(0>2^24)from oO,if_false,Sem.run_pure,Result.andThen_ok,hm0,h5'];rfl;have h5:=YH z.cells (.inr rfl);simp only[execOp,ho,Instr.buildSlice,Sem.run_bind,run_underlying hu,Result.andThen_ok,hok.sizeOf,YI,if_false,h0,Sem.run_pure,hzr,ng];simp only[h5];rfl
 have hlen:us.size=len*j.size:=by
  have h6:us.size=cs.length:=by rw[<-nO.1];simp
  have h7:∀(parts:List (Nat×Operand))(xs zs:List FV),fR j.size S parts xs=some zs->zs.length=xs.length:=by
   intro parts;induction parts with
   |nil=>intro xs zs h;simp only[fR,bF]at h;rw[h]
   |cons p parts ih=>obtain⟨i,x⟩:=p;intro xs zs h;simp only[fR]at h;split at h;split at h;grind;rename_i us YH;rw[ih _ _ h,(qK YH).1];simp_all
  rw[h6,h7 _ _ _ hcs,(pe _ _).1];simp[hok.len]
 grind
theorem we (w:World)(us:Array Value)(e:TypeId){t:Nm}:∃cs fr,(w.alloc (.cells us e)).heap[w.heap.size]?=some (.cells cs e fr)/\acf t fr:=⟨_,_,World.alloc_heap_new w _,by cases t<;>trivial⟩
theorem wp_openSlice (hs:bp E G S a w){t e:TypeId}{len:Nat}{parts:Array (Nat×Operand)}{d0:Nat}{K:ag->Prop}{sa sb:Nat}{sz:List Value}(ho:o.op=.buildSlice t len parts)(VW:o.dst=some d0)(ht:bK E.C.jh t=some ⟨sa,sb,.slice e,sz⟩)(h:xK E.C S e d0 len parts.toList K){next:Act->World->Prop}{Q:Exit->Act->World->Prop}(hn:∀S' a' w',K S'->mY E S' a' w'->next a' w'):AY E o a w next Q:=by
 unfold xK Fh at h;split at h;simp_all;rename_i j hj;split at h;rename_i hle h0;have hpos:0<j.size:=vY (bJ h0);split at h;rename_i cs hcs;split at h;simp_all;rw[jS,jF]at h;obtain⟨hdn,h⟩:=h;obtain⟨us,hrun,nO,hsz⟩:=HI hs ho ht hj (gW hle) hcs;generalize hd:S.off+d0=d at h hdn;obtain⟨G2,g1,g2,g3,g4,g5,g6,g7,g8⟩:=tX hs d hdn us.toList cs e λi x hx=>by
  have hl:i<us.toList.length:=by rw[nO.1];exact(aG.1 hx).1
  exact⟨_,an hl,nO.2 i _ x (an hl) hx⟩
 rw[Ct]at g1;have mG:cs.length=len*j.size:=by rw[<-nO.1,jj,hsz]
 have hg:=g1.xZ (t:=d) (B:=w.heap.size) (s:=len*j.size) (e:=len*j.size) (T:=e) g4 (by simp) hs.kept.size (we w us e) (λo q=>by
  have :o=d:=by grind
  subst this;refine⟨rfl,?_,λcells hc=>?_⟩;exact kR _ _;simp only[Qv.getObj,iN]at hc;obtain rfl:=ak hc;rw[FV.fE,aj,mG]) (λt' r q=>g5 t' r q) (λo q=>g7 o q) (λi h1 h2=>oO);refine wp_value hrun ?_;rw[VW];exact hn _ _ _ h ⟨_,hg.put (some d0) (x:=.fT d e j.size) (.fT d e j.size len len w.heap.size g2 (by simp) (av _) hpos)⟩;simp_all;simp_all
theorem Ba {P:Program}(hs:bp E G S a w){k n c b:Nat}{bI:Nat}{T:TypeId}{xs:List FV}(hk:Qv.getObj S.aD k=some xs)(hl:G.loc k=some b)(ht:G.tail k=some (b,n*bI,c*bI,T)):∃news:List Value,news.length=n*bI/\(∀(i:Nat)(x:FV),xs[i]?=some x->∃u,news[i]?=some u/\aO G w u x)/\∀w',(∀b o,w'.cell? ⟨b,o,none⟩=w.cell? ⟨b,o,none⟩)->(Builtin.firstCells bI n (.slice (some ⟨b,0,none⟩) n c)).run P w'=.ok news.toArray w':=by
 have hlen:=(hs.ck k k b _ hl ht).2.2 xs hk;simp only at hlen;obtain⟨b',h1,h2⟩:=hs.aD k xs hk;obtain rfl:b'=b:=by simp_all
 let f:Nat->Value:=λq=>(w.cell? ⟨b',q,none⟩).getD undef;have hf:∀q,q<n*bI->w.cell? ⟨b',q,none⟩=some (f q):=λq hq=>by
  have hql:q<xs.length:=oO
  obtain⟨u,h3,-⟩:=h2 q _ (an hql);grind
 refine⟨(List.range (n*bI)).map f,by simp,λi x hx=>?_,λw' hw=>?_⟩;grind;have :=run_loadCells (P:=P) w' ⟨b',0,none⟩ (n*bI) f (λq MF=>by rw[Addr.add_lit,hw,dn];simp_all);simpa[Builtin.firstCells]using this
theorem bp.OW (hs:bp E G S a w){k b s0 e0:Nat}{T:TypeId}{xs ys:List FV}{news:List Value}(hk:Qv.getObj S.aD k=some xs)(hl:G.loc k=some b)(ht:G.tail k=some (b,s0,e0,T))(hn:s0+news.length<=e0)(hr:∀(i:Nat)(x:FV),ys[i]?=some x->∃u,news[i]?=some u/\aO G w u x)(hlen:ys.length=news.length):bp E {G with tail:=λt=>if t=k then some (b,s0+news.length,e0,T)else G.tail t} {S.kill k with aD:=(k,FV.dJ k (xs++ys))::dW k S.aD} a (w.setCells b s0 news):=by
 obtain⟨t1,t2,tt,t3⟩:=hs.fS k b s0 e0 T ht;obtain⟨-,l2,l3⟩:=hs.gD k b hl;obtain⟨-,hnb,YS⟩:=hs.ck k k b _ hl ht;have hxl:xs.length=s0:=YS xs hk;clear YS;obtain⟨b',hb',hcell⟩:=hs.aD k xs hk;obtain rfl:b'=b:=by simp_all
 have hout:∀b2 i,b2≠b'->(w.setCells b' s0 news).cell? ⟨b2,i,none⟩=w.cell? ⟨b2,i,none⟩:=λb2 i hne=>World.cell?_setCells_out b' _ s0 w ⟨b2,i,none⟩ (λe=>absurd e hne);have hfz:∀x,(w.setCells b' s0 news).frozen? x=w.frozen? x:=λx=>World.frozen?_setCells b' _ s0 w x;have hsz:=jy b' news s0 w;let G':aZ:={G with tail:=λt=>if t=k then some (b',s0+news.length,e0,T)else G.tail t};have up:∀v x,aO G w v x->aO G' (w.setCells b' s0 news) v (x.kill k):=λv x hv=>by have h1:aO {G with tail:=λt=>if t=k then none else G.tail t} w v (x.kill k):=hv.kill k rfl (λ_ _ _ h=>h) (λt r hne h=>by simp_all);refine h1.keep (λ_ _ h=>h) (λb2 i c hi hc=>?_) ((fU.setCells b' _ _ _).oV _) (λ_ _ h=>h) (λt r h=>?_);grind;grind
 refine⟨hs.kept.setCells (E.BU l2) _ _,hs.size,hs.ext'.move (S':={S.kill k with aD:=(k,FV.dJ k (xs++ys))::dW k S.aD}) (FV.kill k) rfl rfl rfl up (.setCells b' _ _ _) (.aet k rfl rfl (.kill k rfl (λ_ _ _ h=>h) (λ_ _ h=>h) (λ_ _ _ h=>h) (λ_ _ h=>h) λ_ _ h=>h)),?_,hs.mX,λb o h=>by rw[hsz];exact hs.fo b o h,λi hi=>up _ _ (hs.tmps i hi),λo cs ho=>?_,λo b ho=>?_,hs.eU,λo t b r h h'=>?_,λt b s e T' h=>?_,λt t' b r r' h h'=>?_⟩;refine hs.iY.keep rfl rfl (λo bs q=>⟨(kn q).2,rfl,rfl⟩) (λo bs q0 q=>?_) (λ_ _ e=>e) oO (λo bs b q q2 e=>gQ _ _ _ _ _ (λe2=>?_)) (λo r e=>gQ _ _ _ _ _ (λe2=>(hs.iY.row o r e).2.2.2.1 k (e2▸hl))) (λ_ _ _ _ e=>e) (λ_ _ _ _ e=>e) (λo r t q _ e=>?_);simp only[Qv.getObj];split;simp_all;exact oh q;have :=hs.eU o k b e (e2▸hl);simp_all;grind;simp only[Qv.getObj]at ho;split at ho;rename_i OR;obtain rfl:=aK OR;obtain rfl:=ak ho;refine⟨b',hl,λi x hx=>?_⟩;rw[FV.fE,aJ]at hx;cases hy:(xs++ys)[i]?with
 |none=>simp_all
 |some y=>rw[hy]at hx;obtain rfl:=ak hx;by_cases hi:i<xs.length;rw[cV hi]at hy;obtain⟨c,h2,h3⟩:=hcell i y hy;refine⟨c,?_,up _ _ h3⟩;rw[World.cell?_setCells_out b' _ s0 w ⟨b',i,none⟩ (λ_ _=>by simp_all)];omega;rw[eu oO]at hy;obtain⟨u,h2,h3⟩:=hr _ y hy;have Ye:i-xs.length<news.length:=(aG.1 h2).1;have hin:=World.cell?_setCells_in b' news s0 w (λq MF=>by grind) _ Ye;grind
 rename_i OR;obtain⟨hne,cs0,h2,rfl⟩:=kQ ho;obtain⟨b2,h3,h4⟩:=hs.aD o cs0 h2;have AZ:b2≠b':=λe=>hne (hs.eU o k b2 h3 (e▸hl));refine⟨b2,h3,λi x hx=>?_⟩;rw[FV.fE,aJ]at hx;grind;obtain⟨k1,k2,k3⟩:=hs.gD o b ho;simp_all;simp only at h h';split at h';rename_i htk;have :=ak h';injection this with q1 q2;subst q1;subst q2;subst htk;obtain rfl:=hs.eU o k b' h hl;refine⟨rfl,kR _ _,λcells hc=>?_⟩;simp only[Qv.getObj,iN]at hc;obtain rfl:=ak hc;rw[FV.fE,aj,ay,hxl,hlen];rename_i hne;have h1:=hs.ck o t b r h h';have hto:=h1.1;refine lB.mono h1 (λbs q=>⟨bs,(kn q).2⟩) λcells q=>?_;simp only[Qv.getObj]at q;split at q;simp_all;obtain⟨-,cs0,h2,rfl⟩:=kQ q;exact⟨cs0,h2,by rw[FV.fE,aj]⟩;simp only at h;split at h;rename_i et;have :=ak h;injection this with q1 q2;injection q2 with q2 q3;injection q3 with q3 q4;subst q1;subst q2;subst q3;subst q4;subst et;refine⟨oO,t2,jA _ _ _ _ _ _ tt,λi hi hi'=>?_⟩;obtain⟨⟨c,k4⟩,k5,k6⟩:=t3 i oO hi';refine⟨⟨c,?_⟩,by simp_all,k6⟩;rw[World.cell?_setCells_out b' _ s0 w ⟨b',i,none⟩ (λ_ _=>by simp_all)];omega;rename_i hne;obtain⟨k1,k2,kt,k3⟩:=hs.fS t b s e T' h;have AZ:b≠b':=λe'=>hne (hs.dR t k b' _ _ (e'▸h) ht);refine⟨oO,k2,jA _ _ _ _ _ _ kt,λi hi hi'=>?_⟩;simp_all;simp only at h h';split at h<;>split at h';simp_all;obtain⟨rfl,-⟩:=gY (ak h);exact(hs.dR _ _ _ _ _ ht h').symm▸oO;obtain⟨rfl,-⟩:=gY (ak h');exact(hs.dR _ _ _ _ _ h ht).trans (by grind);exact hs.dR t t' b r r' h h'
theorem zC (hs:bp E G S a w)(d:Nat)(hdn:iy d=false){zs:List FV}{cells:List Value}{s cap:Nat}{e:TypeId}(hlen:zs.length=s)(mG:cells.length=cap)(hr:∀(i:Nat)(x:FV),zs[i]?=some x->∃c,cells[i]?=some c/\aO G w c x):∃G',bp E G' {S.kill d with aD:=(d,FV.dJ d zs)::dW d S.aD} a (w.alloc (.cells cells.toArray e))/\G'.loc d=some w.heap.size/\G'.tail d=some (w.heap.size,s,cap,e):=by
 obtain⟨G2,g1,g2,g3,g4,g5,g6,g7,g8⟩:=tX hs d hdn cells zs e hr;have hg:=g1.xZ (t:=d) (B:=w.heap.size) (s:=s) (e:=cap) (T:=e) g4 (by simp) hs.kept.size (we w _ e) (λo q=>by
  have :o=d:=by grind
  subst this;refine⟨rfl,kR _ _,λcells hc=>?_⟩;simp only[Qv.getObj,iN]at hc;obtain rfl:=ak hc;rw[FV.fE,aj,hlen]) (λt' r q=>g5 t' r q) (λo q=>g7 o q) (λi h1 h2=>by simp_all);grind
theorem bp.Ux (hs:bp E G S a w){k b n N bI e0:Nat}{T:TypeId}{xs:List FV}(hk:Qv.getObj S.aD k=some xs)(hl:G.loc k=some b)(ht:G.tail k=some (b,N*bI,e0,T))(hn:n<=N*bI)(hle:N*bI<=e0):bp E {G with tail:=λt=>if t=k then some (b,n,e0,T)else G.tail t} {S.kill k with aD:=(k,FV.dJ k (xs.take n))::dW k S.aD} a w:=by
 obtain⟨t1,t2,tt,t3⟩:=hs.fS k b _ e0 T ht;obtain⟨-,l2,l3⟩:=hs.gD k b hl;obtain⟨-,hnb,YS⟩:=hs.ck k k b _ hl ht;have hxl:xs.length=N*bI:=YS xs hk;clear YS;obtain⟨b',hb',hcell⟩:=hs.aD k xs hk;obtain rfl:b'=b:=by simp_all
 let G':aZ:={G with tail:=λt=>if t=k then some (b',n,e0,T)else G.tail t};have up:∀v x,aO G w v x->aO G' w v (x.kill k):=λv x hv=>by have h1:aO {G with tail:=λt=>if t=k then none else G.tail t} w v (x.kill k):=hv.kill k rfl (λ_ _ _ h=>h) (λt r hne h=>by simp_all);refine h1.keep (λ_ _ h=>h) (λb2 i c hi hc=>hc) (vr.refl _ _) (λ_ _ h=>h) (λt r h=>?_);grind
 refine⟨hs.kept,hs.size,hs.ext'.move (S':={S.kill k with aD:=(k,FV.dJ k (xs.take n))::dW k S.aD}) (FV.kill k) rfl rfl rfl up (fU.refl w) (.aet k rfl rfl (.kill k rfl (λ_ _ _ h=>h) (λ_ _ h=>h) (λ_ _ _ h=>h) (λ_ _ h=>h) λ_ _ h=>h)),?_,hs.mX,hs.fo,λi hi=>up _ _ (hs.tmps i hi),λo cs ho=>?_,hs.gD,hs.eU,λo t b r h h'=>?_,λt b s e T' h=>?_,λt t' b r r' h h'=>?_⟩;refine hs.iY.keep rfl rfl (λo bs q=>⟨(kn q).2,rfl,rfl⟩) (λo bs q0 q=>?_) (λ_ _ e=>e) (av _) (λo bs b q q2 e=>rfl) (λo r e=>rfl) (λ_ _ _ _ e=>e) (λ_ _ _ _ e=>e) (λo r t q _ e=>?_);simp only[Qv.getObj];split;simp_all;exact oh q;grind;simp only[Qv.getObj]at ho;split at ho;rename_i OR;obtain rfl:=aK OR;obtain rfl:=ak ho;refine⟨b',hl,λi x hx=>?_⟩;rw[FV.fE,aJ]at hx;grind;rename_i OR;obtain⟨hne,cs0,h2,rfl⟩:=kQ ho;obtain⟨b2,h3,h4⟩:=hs.aD o cs0 h2;refine⟨b2,h3,λi x hx=>?_⟩;rw[FV.fE,aJ]at hx;grind;simp only at h h';split at h';rename_i htk;have :=ak h';injection this with q1 q2;subst q1;subst q2;subst htk;obtain rfl:=hs.eU o k b' h hl;refine⟨rfl,kR _ _,λcells hc=>?_⟩;simp only[Qv.getObj,iN]at hc;obtain rfl:=ak hc;rw[FV.fE,aj,aN,hxl];omega;rename_i hne;have h1:=hs.ck o t b r h h';have hto:=h1.1;refine lB.mono h1 (λbs q=>⟨bs,(kn q).2⟩) λcells q=>?_;simp only[Qv.getObj]at q;split at q;simp_all;obtain⟨-,cs0,h2,rfl⟩:=kQ q;exact⟨cs0,h2,by rw[FV.fE,aj]⟩;simp only at h;split at h;rename_i et;have :=ak h;injection this with q1 q2;injection q2 with q2 q3;injection q3 with q3 q4;subst q1;subst q2;subst q3;subst q4;subst et;refine⟨t1,t2,tt,λi hi hi'=>?_⟩;by_cases hin:i<N*bI;obtain⟨c,h2,-⟩:=hcell i _ (an oO);simp_all;simp_all;exact hs.fS t b s e T' h;simp only at h h';split at h<;>split at h';simp_all;obtain⟨rfl,-⟩:=gY (ak h);exact(hs.dR _ _ _ _ _ ht h').symm▸oO;obtain⟨rfl,-⟩:=gY (ak h');exact(hs.dR _ _ _ _ _ h ht).trans (by grind);exact hs.dR t t' b r r' h h'
theorem wp_evCutO (hs:bp E G S a w){K:ag->Prop}{x hi:Operand}{t:TypeId}(ho:o.op=.slice t x none (some hi) none){k:Nat}{T:TypeId}{bI:Nat}(hx:S.val x=.fT k T bI)(h:RD E.C t o.dst S k T bI (S.val hi) K){next:Act->World->Prop}{Q:Exit->Act->World->Prop}(hn:∀S' a' w',K S'->mY E S' a' w'->next a' w'):AY E o a w next Q:=by
 have GA:=aO.val hs x;have hhv:=aO.val hs hi;rw[hx]at GA;generalize S.val hi=vh at h hhv;unfold RD at h;split at h;rename_i d _ _ e _ kk n hd ht;have JN:=(E.C.ok ht).slice;split at h;simp_all;rename_i j hj;have hjs:=(E.C.ok hj).sizeOf w;split at h;rename_i xs hb hxs;obtain rfl:=aK hb;obtain⟨hkn,hxs⟩:=iW hxs;obtain⟨m,N,rfl,hN,hm,zs,rfl,hK⟩:=h;generalize KL:a.eval x=vv at GA;cases GA with
 |fT _ _ _ n' c b p1 p2 p3 p4=>
  have hxl:=(hs.ck _ _ _ _ p1 p2).2.2 xs hxs;simp only at hxl;obtain rfl:N=n':=gx p4 (hN.symm.trans hxl);have hh:a.eval hi=.int kk m:=hhv.fL;have hbd:=mo (P:=E.C.P) (w:=w) true N c none (some (.int kk m)) 0 m (zL) oO (.inl ⟨rfl,rfl⟩) (.inr ⟨kk,rfl⟩);have hrun:(execOp a.eval o).run E.C.P w=.ok (.value (.slice (some ⟨b,0,none⟩) m c)) w:=by simp[execOp,ho,KL,hh,Instr.sliceAt,run_underlying JN,Instr.slice,hbd,hjs,Addr.add_lit]
  have acn:=hs.Ux hxs p1 p2 (n:=m*j.size) (ew _ hm) (ew _ p3);refine wp_value hrun (hn _ _ _ hK ⟨{G with tail:=λt=>if t=k then some (b,m*j.size,c*j.size,T)else G.tail t},?_⟩);rw[hd];exact acn.put (some d) (v:=.slice (some ⟨b,0,none⟩) m c) (x:=.fT k T j.size) (.fT k T j.size m c b p1 (by simp_all) oO p4)
 simp_all;simp_all
theorem wp_evTailO (hs:bp E G S a w){K:ag->Prop}{x lo:Operand}{t:TypeId}(ho:o.op=.slice t x (some lo) none none){k:Nat}{T:TypeId}{bI:Nat}(hx:S.val x=.fT k T bI)(h:Mt E.C t o.dst S k T bI (S.val lo) K){next:Act->World->Prop}{Q:Exit->Act->World->Prop}(hn:∀S' a' w',K S'->mY E S' a' w'->next a' w'):AY E o a w next Q:=by
 have GA:=aO.val hs x;have hhv:=aO.val hs lo;rw[hx]at GA;generalize S.val lo=vh at h hhv;unfold Mt at h;split at h;rename_i d _ _ e _ kk n hd ht;have JN:=(E.C.ok ht).slice;split at h;simp_all;rename_i j hj;have hjs:=(E.C.ok hj).sizeOf w;split at h;rename_i xs hb hxs;obtain rfl:=aK hb;obtain⟨hkn,hxs⟩:=iW hxs;obtain⟨m,N,rfl,hN,hm,hK⟩:=h;generalize KL:a.eval x=vv at GA;cases GA with
 |fT _ _ _ n' c b p1 p2 p3 p4=>
  have hxl:=(hs.ck _ _ _ _ p1 p2).2.2 xs hxs;simp only at hxl;obtain rfl:N=n':=gx p4 (hN.symm.trans hxl);have hh:a.eval lo=.int kk m:=hhv.fL;have hbd:=mo (P:=E.C.P) (w:=w) true N c (some (.int kk m)) none m N hm p3 (.inr ⟨kk,rfl⟩) (.inl ⟨rfl,rfl⟩);have hrun:(execOp a.eval o).run E.C.P w=.ok (.value (.slice (some ⟨b,if c=m then 0 else m*j.size,none⟩) (N-m) (c-m))) w:=by
   by_cases hcm:c=m;subst hcm;simp[execOp,ho,KL,hh,Instr.sliceAt,run_underlying JN,Instr.slice,hbd,hjs,Addr.add_lit];have h0:¬c-m=0:=oO
   simp[execOp,ho,KL,hh,Instr.sliceAt,run_underlying JN,Instr.slice,hbd,hjs,Addr.add_lit,hcm,h0]
  refine wp_value hrun (hn _ _ _ hK ⟨G,?_⟩);rw[hd];exact hs.put (some d) (x:=.sY k m T j.size) (.sY k m T j.size N c b _ p1 p2 ⟨hm,λh=>aa oO⟩ p3 p4)
 simp_all;simp_all
theorem MH {α:Type}:∀{ys xs:List α}{n:Nat},xs.length=n+ys.length->gE xs n ys=some (xs.take n++ys)
 |[],xs,n,h=>by simp only[gE,aW];rw[fe (by simp_all)]
 |y::ys,xs,n,h=>by
  have hA:(xs.take n).length=n:=by rw[aN];omega
  have e:xs=xs.take n++(xs.drop n++[]):=by rw[aW,dU]
  have hd:(xs.drop n).length=(y::ys).length:=by rw[eo];omega
  have key:∀{cs ds:List α}{pre:List α},ds.length=cs.length->gE (pre++ds) pre.length cs=some (pre++cs):=by
   intro cs;induction cs with
   |nil=>intro ds pre hl;rw[cO.1 hl];rfl
   |cons c cs ih=>
    intro ds pre hl;match ds,hl with
     |d::ds,hl=>
      have hl:ds.length=cs.length:=by simpa using hl
      have h1:JC (pre++d::ds) pre.length c=some (pre++c::ds):=by
       clear ih hl;induction pre with
       |nil=>rfl
       |cons p pre ih=>simp only[cr,aS,JC,ih]
      have h2:=ih (ds:=ds) (pre:=pre++[c]) hl;simp only[ay,gZ,bl,pq]at h2;simp only[gE,h1,h2]
  grind
theorem RQ {P:Program}(w:World)(t e ty:TypeId)(z:Value)(ht:P.underlying t=some (.slice e))(hv:(zeroValue e).run P w=.ok z w)(b o n c:Nat)(hst:(storeCells ⟨b,o,none⟩ (nS n z.cells.toList) 0).run P w=.ok () (w.setCells b o (nS n z.cells.toList))):(Builtin.clear_ #[t] ty #[.slice (some ⟨b,o,none⟩) n c]).run P w=.ok (.tuple #[]) (w.setCells b o (nS n z.cells.toList)):=by
 have Gz:(Builtin.zeroCells z.cells n).toList=nS n z.cells.toList:=by
  obtain⟨g1,g2⟩:=pe z.cells.toList n;apply gU;intro i;by_cases hi:i<n*z.cells.toList.length;rw[g2 i hi];have hi':i<n*z.cells.size:=by simpa using hi
  have hpos:0<z.cells.size:=by rcases Nat.eq_zero_or_pos z.cells.size with h0|h0;simp_all;omega
  have hm:i%z.cells.size<z.cells.size:=by grind
  simp[Builtin.zeroCells,hi',hm];rw[nt (l:=nS n z.cells.toList) oO,nt];have hi2:¬i<n*z.cells.size:=by simpa using hi
  simp only[Builtin.zeroCells,ng,aj,Array.toList_range,ko];omega
 cases n with
 |zero=>simp[Builtin.clear_,run_underlying ht];rfl
 |succ n=>simp[Builtin.clear_,run_underlying ht,hv,Gz,hst]
theorem wp_evAppO (hs:bp E G S a w){d:Nat}{K:ag->Prop}{x y:Operand}{t u:TypeId}(ho:o.op=.call ⟨.builtin .append,#[x,y],#[t,u]⟩)(hd:o.dst=some d){o2:Nat}{T2:TypeId}{e2:Nat}(hy:S.val y=.fT o2 T2 e2)(h:Ry E.C t u d S (S.val x) o2 T2 e2 K){next:Act->World->Prop}{Q:Exit->Act->World->Prop}(hn:∀S' a' w',K S'->mY E S' a' w'->next a' w'):AY E o a w next Q:=by
 have GA:=aO.val hs x;have hyv:=aO.val hs y;rw[hy]at hyv;generalize S.val x=vx at h GA;unfold Ry at h;split at h;rename_i e _ ui ht hui;have JN:=(E.C.ok ht).slice;obtain⟨dd,YT,hsh⟩:=(E.C.ok hui).xS;split at h;simp_all;rename_i yc;have hdk:∀k,dd≠.int k:=λk e=>by rw[<-hsh,e]at yc;simp[shapeOf,Shape.Fc]at yc
 split at h;simp_all;rename_i j hj;have hok:=E.C.ok hj;split at h;rename_i he2 hT2 hb0;obtain rfl:=aK he2;obtain rfl:=aK hT2;have hb0:=bJ hb0;split at h;simp_all;rename_i ys hys;generalize OY:a.eval y=vy at hyv;cases hyv with
 |fT _ _ _ m c2 b2 q1 q2 q3 q4=>
  have YU:=(hs.ck _ _ _ _ q1 q2).2.2 ys hys;simp only at YU;obtain⟨news,nl,nr,nf⟩:=Ba (P:=E.C.P) hs hys q1 q2;have hl:(Builtin.lenOf (.slice (some ⟨b2,0,none⟩) m c2)).run E.C.P w=.ok m w:=by simp[Builtin.lenOf]
  have hone:jQ ys=true->∀v,v∈news->v.oneCell'=true:=λh1 v hv=>by
   obtain⟨i,hi⟩:=iL hv;have BL:i<ys.length:=by rw[YU,<-nl];exact(aG.1 hi).1
   obtain⟨v',h2,h3⟩:=nr i _ (an BL);rw[hi]at h2;obtain rfl:=ak h2;exact h3.YB (qp.1 h1 _ (aT BL))
  split at h;rename_i k T bI;split at h;rename_i he hT hne;obtain rfl:=aK he;obtain rfl:=aK hT;split at h;simp_all;rename_i xs hxs;obtain⟨hkn,hxs⟩:=iW hxs;obtain⟨n,m',VX,hm1,h1,hbd,zs,rfl,hK⟩:=h;generalize MI:a.eval x=vv at GA;cases GA with
  |fT _ _ _ n' c b p1 p2 p3 p4=>
   have hxl:=(hs.ck _ _ _ _ p1 p2).2.2 xs hxs;simp only at hxl;obtain rfl:n=n':=gx p4 (VX.symm.trans hxl);obtain rfl:m'=m:=gx p4 (hm1.symm.trans YU);obtain⟨t1,t2,tt,t3⟩:=hs.fS _ _ _ _ _ p2;by_cases hc:n+m'<=c;have hq:n*j.size+news.length<=c*j.size:=by have :=ew j.size hc;rw[bC]at this;omega
   have hrun:=nj (P:=E.C.P) (w:=w) (ty:=o.type) (b:=b) (off:=0) JN YT hdk hok hl (nf w λ_ _=>rfl) hc (λq MF=>by grind) (λq MF=>by grind) (hone h1);rw[dn]at hrun;have hg:=hs.OW (news:=news) hxs p1 p2 hq nr oO;have hex:(execOp a.eval o).run E.C.P w=.ok (.value (.slice (some ⟨b,0,none⟩) (n+m') c)) (w.setCells b (n*j.size) news):=by simp[execOp,ho,resolve,invoke,builtin,MI,OY,hrun]
   refine wp_value hex (hn _ _ _ hK ⟨{G with tail:=λt=>if t=k then some (b,n*j.size+news.length,c*j.size,T)else G.tail t},?_⟩);rw[hd];refine hg.put (some d) (v:=.slice (some ⟨b,0,none⟩) (n+m') c) (x:=.fT k T j.size) (.fT k T j.size (n+m') c b p1 ?_ hc p4);simp only[if_true];rw[nl,bC];obtain⟨olds,ol,or',of'⟩:=Ba (P:=E.C.P) hs hxs p1 p2;obtain⟨rest,z,hz,qe,hrun⟩:=iM (P:=E.C.P) (w:=w) (ty:=o.type) (news:=news) (olds:=olds) JN YT hdk hok hl nf of' hc hbd hb0;have hcap:n+m'<=grownCap w (n+m') c T:=grownCap_ge w _ _ _;generalize hcg:grownCap w (n+m') c T=cap at*;have hrl:rest.size=(cap-(n+m'))*j.size:=by rw[qe,size_zeroCells,hz]
   have mG:(olds++news++rest.toList).length=cap*j.size:=by simp only[ay,ol,nl,jj,hrl,<-bC];rw[show n+m'+(cap-(n+m'))=cap from oO]
   obtain⟨G',g1,g2,g3⟩:=zC hs.drew k hkn (zs:=xs++ys) (cells:=olds++news++rest.toList) (s:=(n+m')*j.size) (cap:=cap*j.size) (e:=T) (by grind) mG (λi z hz=>by have hk:∀{v:Value}{z:FV},aO G w v z->aO G {w with drawn:=w.drawn+1} v z:=λh=>h.keep (λ_ _ h=>h) (λ_ _ _ _ h=>h) (λ_ _ _ _ h=>h) (λ_ _ h=>h) (λ_ _ h=>h);grind);have hW:w.drew.alloc (.cells (olds.toArray++news.toArray++rest) T)=({w with drawn:=w.drawn+1}:World).alloc (.cells (olds++news++rest.toList).toArray T):=by
    have :olds.toArray++news.toArray++rest=(olds++news++rest.toList).toArray:=by apply kf.1;simp
    rw[this];rfl
   rw[hW]at hrun;refine wp_value (v:=.slice (some ⟨w.heap.size,0,none⟩) (n+m') cap) (w':=({w with drawn:=w.drawn+1}:World).alloc (.cells (olds++news++rest.toList).toArray T)) ?_ (hn _ _ _ hK ⟨G',?_⟩);simp[execOp,ho,resolve,invoke,builtin,MI,OY]at hrun⊢;simp_all;rw[hd];exact g1.put (some d) (v:=.slice (some ⟨w.heap.size,0,none⟩) (n+m') cap) (x:=.fT k T j.size) (.fT k T j.size (n+m') cap w.heap.size g2 g3 hcap p4)
  simp_all;obtain⟨m',hm0,hm1,h1,hbd,h⟩:=h;rw[jF]at h;obtain⟨hdn,zs,rfl,hK⟩:=h;generalize MI:a.eval x=vv at GA;cases GA with
  |full _ ad hr0=>
   obtain rfl:m'=m:=gx q4 (hm1.symm.trans YU);have of':∀w',(∀b o,w'.cell? ⟨b,o,none⟩=w.cell? ⟨b,o,none⟩)->(Builtin.firstCells j.size 0 (.slice ad 0 0)).run E.C.P w'=.ok ([]:List Value).toArray w':=λw' _=>by cases ad<;>simp[Builtin.firstCells,loadCells,loadCellsFrom]
   obtain⟨rest,z,hz,qe,hrun⟩:=iM (P:=E.C.P) (w:=w) (ty:=o.type) (base:=ad) (n:=0) (c:=0) (news:=news) (olds:=[]) JN YT hdk hok hl nf of' oO (by simp_all) hb0;have hcap:0+m'<=grownCap w (0+m') 0 T2:=grownCap_ge w _ _ _;generalize hcg:grownCap w (0+m') 0 T2=cap at*;have hrl:rest.size=(cap-(0+m'))*j.size:=by rw[qe,size_zeroCells,hz]
   have mG:(news++rest.toList).length=cap*j.size:=by simp only[ay,nl,jj,hrl,<-bC];rw[show m'+(cap-(0+m'))=cap from oO]
   generalize hnm:S.off+d=nm at hK hdn;obtain⟨G',g1,g2,g3⟩:=zC hs.drew nm hdn (zs:=ys) (cells:=news++rest.toList) (s:=m'*j.size) (cap:=cap*j.size) (e:=T2) YU mG (λi z hz=>by have hk:∀{v:Value}{z:FV},aO G w v z->aO G {w with drawn:=w.drawn+1} v z:=λh=>h.keep (λ_ _ h=>h) (λ_ _ _ _ h=>h) (λ_ _ _ _ h=>h) (λ_ _ h=>h) (λ_ _ h=>h);grind);have hW:w.drew.alloc (.cells (([]:List Value).toArray++news.toArray++rest) T2)=({w with drawn:=w.drawn+1}:World).alloc (.cells (news++rest.toList).toArray T2):=by
    have :([]:List Value).toArray++news.toArray++rest=(news++rest.toList).toArray:=by apply kf.1;simp
    rw[this];rfl
   rw[hW]at hrun;refine wp_value (v:=.slice (some ⟨w.heap.size,0,none⟩) (0+m') cap) (w':=({w with drawn:=w.drawn+1}:World).alloc (.cells (news++rest.toList).toArray T2)) ?_ (hn _ _ _ hK ⟨G',?_⟩);simp[execOp,ho,resolve,invoke,builtin,MI,OY]at hrun⊢;simp_all;rw[hd];exact g1.put (some d) (v:=.slice (some ⟨w.heap.size,0,none⟩) (0+m') cap) (x:=.fT nm T2 j.size) (.fT nm T2 j.size (0+m') cap w.heap.size g2 (by simp_all) hcap q4)
  simp_all
 simp_all;simp_all
theorem Bb {d Z o:Nat}{qj:List (List AV)}{cells:List FV}:∀{l:List (Nat×List FV)},Qv.getObj (zw d Z qj l) o=some cells->o≠d/\∃cs,Qv.getObj l o=some cs/\cells=FV.BP d Z qj cs:=by
 intro l;induction l with
 |nil=>intro h;cases h
 |cons p l ih=>
  obtain⟨u,i⟩:=p;intro h;simp only[zw]at h;split at h;rename_i hb;obtain rfl:=aK hb;obtain⟨h1,cs,h2,h3⟩:=ih h;refine⟨h1,cs,?_,h3⟩;simp only[Qv.getObj];have :Nat.beq u o=false:=by cases hb:Nat.beq u o;rfl;simp_all
  simp_all;rename_i hb;simp only[Qv.getObj]at h⊢;grind
theorem mO {α:Type}{e:Nat}:∀{l:List (List α)},(∀zs,zs∈l->zs.length=e)->∀{i j:Nat}{zs:List α}{z:α},l[i]?=some zs->zs[j]?=some z->l.flatten[i*e+j]?=some z
 |[],_,i,j,zs,z,h,_=>by grind
 |x::l,hl,0,j,zs,z,h1,h2=>by grind
 |x::l,hl,i+1,j,zs,z,h1,h2=>by have hx:=hl x (by simp);rw[mZ,eu (by grind),hx,show(i+1)*e+j-e=i*e+j by grind];exact mO (λzs hz=>hl zs (by grind)) (by simp_all) h2
theorem aO.JF {G G':aZ}{w:World}{v:Value}{x:FV}{d Z:Nat}{qj:List (List AV)}(h:aO G w v x)(hi:∀b o,G.bh b o->G'.bh b o)(hl:∀o b,o≠d->G.loc o=some b->G'.loc o=some b)(ht:∀(t:Nat) r,G.tail t=some r->G'.tail t=some r)(hO:∀(T:TypeId)(bI n c b:Nat),G.loc d=some b->G.tail d=some (b,n*bI,c*bI,T)->n<=c->0<bI->bI=Z->aO G' w (.slice (some ⟨b,0,none⟩) n c) (.gi d T bI qj))(hy:∀l k,G.yl l=some k->G'.yl l=some k:=by intro _ _ h;exact h)(hmp:∀o b,o≠d->G.mp o=some b->G'.mp o=some b:=by intro _ _ _ h;exact h)(hit:∀o b,o≠d->G.it o=some b->G'.it o=some b:=by intro _ _ _ h;exact h):aO G' w v (x.JF d Z qj):=by
 have get:∀{cs:List Value}{xs:List FV},(∀(i:Nat)(c:Value)(x:FV),cs[i]?=some c->xs[i]?=some x->aO G' w c (x.JF d Z qj))->∀(i:Nat)(c:Value)(x:FV),cs[i]?=some c->(FV.BP d Z qj xs)[i]?=some x->aO G' w c x:=λ{cs xs} ih i c x h1 h2=>by rw[FV.vF,aJ]at h2;grind
 induction h with
 |p v x h=>exact .p v x (h.keep hi (λ_ _ _ _ h=>h) (.refl _ _))
 |agg cs xs hn _ ih=>exact .agg cs _ (by simpa[FV.vF]using hn) (get ih)
 |eS cs xs hn _ ih=>exact .eS cs _ (by simpa[FV.vF]using hn) (get ih)
 |ptr o off b h=>simp only[FV.JF];split;exact .dy _;rename_i hb;exact .ptr o off b (hl o b (bJ hb) h)
 |gi t T bI xs a c h1 h2=>simp only[FV.JF];split;exact .p _ _ (h1.keep hi (λ_ _ _ _ h=>h) (.refl _ _));refine .gi t T bI xs a c (h1.keep hi (λ_ _ _ _ h=>h) (.refl _ _)) ?_;grind
 |full xs a h=>exact .full xs a (h.keep hi (λ_ _ _ _ h=>h) (.refl _ _))
 |fn f fs cs first captured hn hn' _ _ ih Gr=>exact .fn f fs cs _ _ (by simpa[FV.vF]using hn) (by simpa[FV.vF]using hn') (get ih) (get Gr)
 |lM l k h=>simp only[FV.JF];split;exact .dy _;exact .lM l k (hy _ _ h)
 |fT o T bI n c b h1 h2 h3 h4=>simp only[FV.JF];split;rename_i hb;obtain rfl:=aK hb;split;rename_i he;exact hO T bI n c b h1 h2 h3 h4 (aK he);exact .dy _;rename_i hb;exact .fT o T bI n c b (hl o b (bJ hb) h1) (ht o _ h2) h3 h4
 |sY o x T bI n c b off h1 h2 h0 h3 h4=>simp only[FV.JF];split;exact .dy _;rename_i hb;exact .sY o x T bI n c b off (hl o b (bJ hb) h1) (ht o _ h2) h0 h3 h4
 |gB o base off b h=>simp only[FV.JF];split;exact .dy _;rename_i hb;exact .gB o base off b (hl o b (bJ hb) h)
 |fu o b h=>simp only[FV.JF];split;exact .dy _;rename_i hb;exact .fu o b (hmp o b (bJ hb) h)
 |zo o b h=>simp only[FV.JF];split;exact .dy _;rename_i hb;exact .zo o b (hit o b (bJ hb) h)
 |dy v=>exact .dy v
theorem lN.Om {G G':aZ}{S:ag}{w:World}{d Z:Nat}{qj:List (List AV)}(hi:∀b i es k,w.heap[b]?=some (.map es k)->(∃o,G'.mp o=some b)->G'.bh b i->G.bh b i)(hi':∀b,G.bh b 0->G'.bh b 0)(hmp:G'.mp=G.mp)(hit:G'.it=G.it)(hl:∀o b,G'.loc o=some b->G.loc o=some b)(ht:∀q r,G.tail (.inr q)=some r->G'.tail (.inr q)=some r:=by first|exactλ_ _ h=>h|exactλ_ _ h=>(aa (λe=>nomatch e)).trans h):lN (FV.JF d Z qj) G G' S (S.Om d Z qj) w:=by refine⟨λ_=>rfl,λo l' h=>?_,λq x h=>?_,λ_ _ h=>hmp▸h,λ_ _ h=>hit▸h,hi,hi',λo b h=>.inl (hl o b h),ht⟩;obtain⟨l,h1,h2⟩:=vU h;obtain⟨h3,h4⟩:=pg h1;simp_all;obtain⟨h1,h2⟩:=pg h;simp_all
theorem bp.Om (hs:bp E G S a w){d Z:Nat}{qj:List (List AV)}(hf:ag8 S d Z qj):∃G',bp E G' (S.Om d Z qj) a w:=by
 obtain⟨⟨cells,hc0,hy⟩,Av⟩:=hf;obtain⟨hdn,hc⟩:=iW hc0;clear hc0;generalize hys:qj.flatten=ys at hy;obtain⟨B,hB,hcell⟩:=hs.aD d cells hc;obtain⟨OZ,DU,hl3⟩:=hs.gD d B hB;obtain⟨hlen,uJ⟩:=FV.iV hy;let G':aZ:={G with bh:=λb o=>G.bh b o\/(b=B/\o<ys.length),loc:=λo=>if o=d then none else G.loc o};have hone:∀y,y∈ys->y.one=true:=λy hy=>by rw[<-hys]at hy;obtain⟨zs,h1,h2⟩:=Cu.1 hy;grind
 have uK:∀o b,G'.loc o=some b->o≠d/\G.loc o=some b:=by grind
 have nO:∀(j:Nat)(y:AV),ys[j]?=some y->∃c,w.cell? ⟨B,j,none⟩=some c/\dh G'.bh w c y:=λj y hj=>by obtain⟨x,hx,hxy⟩:=uJ j y hj;obtain⟨c,h2,h3⟩:=hcell j x hx;exact⟨c,h2,(h3.eW hxy).keep (λb o h=>.inl h) (λ_ _ _ _ h=>h) (.refl _ _)⟩
 have YV:∀b i es n,b=B->i<ys.length->w.heap[b]?=some (.map es n)->False:=λb i es n e hi hb=>by subst e;obtain⟨c,h2,-⟩:=nO i _ (an hi);rw[BW hb]at h2;grind
 have up:∀v x,aO G w v x->aO G' w v (x.JF d Z qj):=λv x hv=>by
  refine hv.JF (λb o h=>.inl h) (λo b hne h=>by grind) (λ_ _ h=>h) (λT bI n c b h1 h2 h3 h4 h5=>?_);obtain rfl:b=B:=by simp_all
  subst h5;have h6:=(hs.ck d d b _ h1 h2).2.2 cells hc;simp only at h6;have h7:qj.flatten.length=qj.length*bI:=by
   have :∀l:List (List AV),(∀zs,zs∈l->zs.length=bI)->l.flatten.length=l.length*bI:=by
    intro l;induction l with
    |nil=>simp_all
    |cons z l ih=>grind
   exact this qj λzs hz=>(Av zs hz).1
  have h8:qj.length=n:=gx h4 (by simp_all);subst h8;refine .gi d T bI qj (some ⟨b,0,none⟩) c (ya h3 (λzs hz=>(Av zs hz).1) λi zs j z hi hj=>?_) (.inr ⟨b,0,rfl,λzs hz=>(Av zs hz).1,by grind⟩);rw[dn];have h9:ys[i*bI+j]?=some z:=by rw[<-hys];exact mO (λzs hz=>(Av zs hz).1) hi hj
  grind
 refine⟨G',hs.kept,hs.size,hs.ext'.move (S':=S.Om d Z qj) (FV.JF d Z qj) rfl rfl rfl up (.refl _) (.Om (λb i es n hb _ h=>h.elim id λh=>(YV b i es n h.1 h.2 hb).elim) (λ_ h=>.inl h) rfl rfl (λo b h=>(uK o b h).2)),?_,?_,?_,λi hi=>up _ _ (hs.tmps i hi),λo cs ho=>?_,λo b ho=>?_,λo o' b h h'=>hs.eU o o' b (uK _ _ h).2 (uK _ _ h').2,λo t b r h h'=>lB.mono (hs.ck o t b r (uK _ _ h).2 h') (λbs q=>⟨bs,(kn q).2⟩) (λcs q=>?_),λt b s e T h=>?_,hs.dR⟩;refine hs.iY.keep rfl rfl (λo bs q=>?_) (λo _ _ q=>?_) (λ_ _ e=>e) (av _) (λ_ _ _ _ _ _=>rfl) (λ_ _ _=>rfl) (λo r i e hi=>?_) (λ_ _ o' _ e=>(uK o' _ e).2) (λ_ _ t q _ e=>⟨t,q,e⟩);refine⟨(kn q).2,?_,rfl⟩;have q:=(kn q).2;have hne:o≠d:=λe=>by have :=(hs.iY.at_ o bs q).1;simp_all
 grind;cases h':Qv.getObj (zw d Z qj S.aD) o with
 |none=>exact h'
 |some cs=>obtain⟨-,cs',h2,-⟩:=Bb h';simp_all
 rcases hi with hi|⟨rfl,-⟩;omega;exact absurd hB ((hs.iY.row o _ e).2.2.2.1 d);rintro b o (h|⟨rfl,-⟩);exact hs.mX b o h;exact .inr (E.Hu DU hdn);rintro b o (h|⟨rfl,-⟩);exact hs.fo b o h;omega;obtain⟨hne,cs0,h2,rfl⟩:=Bb ho;obtain⟨b,h3,h4⟩:=hs.aD o cs0 h2;refine⟨b,by grind,λi x hx=>?_⟩;rw[FV.vF,aJ]at hx;grind;obtain⟨hne,ho'⟩:=uK o b ho;obtain⟨k1,k2,k3⟩:=hs.gD o b ho';refine⟨k1,k2,λi=>⟨?_,(k3 i).2⟩⟩;rintro(h|⟨e,-⟩);simp_all;exact hne (hs.eU o d b ho' (by simp_all));obtain⟨-,cs0,h2,rfl⟩:=Bb q;exact⟨cs0,h2,by rw[FV.vF,aj]⟩;obtain⟨k1,k2,kt,k3⟩:=hs.fS t b s e T h;refine⟨k1,k2,kt,λi hi hi'=>?_⟩;obtain⟨k4,k5,k6⟩:=k3 i hi hi';refine⟨k4,k5,?_⟩;rintro(h7|⟨rfl,hlt⟩);simp_all;have :=(hs.ck d t b _ hB h).2.2 cells hc;omega
theorem Pa {i d:Nat}(h:i≠d):Nat.beq i d=false:=by cases hb:Nat.beq i d;rfl;simp_all
end
section
variable {E:Env}{G:aZ}{S:ag}{a:Act}{w:World}{o:Oper}
theorem Fl {l:Nat}{o o':Obj}(hl:w.heap[l]?=some o)(ho:o.isCells=false)(ho':o'.isCells=false)(b i:Nat):(w.putObj l o').cell? ⟨b,i,none⟩=w.cell? ⟨b,i,none⟩:=by unfold World.cell?;by_cases hb:b=l;subst hb;have h1:(w.putObj b o').heap[b]?=some o':=World.putObj_heap_same (bq.1 hl).1;simp only[h1,hl];cases o<;>cases o'<;>simp_all[Obj.isCells];have h1:(w.putObj l o').heap[b]?=w.heap[b]?:=World.putObj_heap_other hb;simp_all
theorem JO {l:Nat}{o o':Obj}(hl:w.heap[l]?=some o)(ho:o.isCells=false)(ho':o'.isCells=false)(b i:Nat):(w.putObj l o').frozen? ⟨b,i,none⟩=w.frozen? ⟨b,i,none⟩:=by unfold World.frozen?;by_cases hb:b=l;subst hb;have h1:(w.putObj b o').heap[b]?=some o':=World.putObj_heap_same (bq.1 hl).1;simp only[h1,hl];cases o<;>cases o'<;>simp_all[Obj.isCells];have h1:(w.putObj l o').heap[b]?=w.heap[b]?:=World.putObj_heap_other hb;simp_all
theorem Aw {bh:Nat->Nat->Prop}{l:Nat}{o o':Obj}(hl:w.heap[l]?=some o)(h:(∃es k,o=.map es k)->¬bh l 0):vr bh w (w.putObj l o'):=λb es k hi hb=>by
 have hne:b≠l:=by grind
 have h1:(w.putObj l o').heap[b]?=w.heap[b]?:=World.putObj_heap_other hne;simp_all
theorem bp.putObj (hs:bp E G S a w){l:Nat}{o o':Obj}(hl:w.heap[l]?=some o)(ho:o.isCells=false)(ho':o'.isCells=false)(hw0:E.w0.heap.size<=l\/l∈E.own)(him:(∃es k,o=.map es k)->¬G.bh l 0){lX:Option Nat}{bD:List (Array Value)}{loops:List (Nat×Loop)}{fixed:List Nat}{cm:List zq}{defers:List Deferred}{maps:List (Nat×List (AV×FV))}{jg:List (Nat×(Option (AV×AV)×List (AV×AV)))}(hx:(∀v x,aO G w v x->aO G (w.putObj l o') v x)->(∀k ob,k≠l->w.heap[k]?=some ob->(w.putObj l o').heap[k]?=some ob)->(w.putObj l o').heap[l]?=some o'->Ext {E with lX:=lX,bD:=bD,loops:=loops,fixed:=fixed} G {S with cm:=cm,maps:=maps,jg:=jg} {a with defers:=defers} (w.putObj l o')):bp {E with lX:=lX,bD:=bD,loops:=loops,fixed:=fixed} G {S with cm:=cm,maps:=maps,jg:=jg} {a with defers:=defers} (w.putObj l o'):=by
 have hlt:=(bq.1 hl).1;have hc:=λb i=>Fl (w:=w) hl ho ho' b i;have hf:=λb i=>JO (w:=w) hl ho ho' b i;have rD:∀k,k≠l->(w.putObj l o').heap[k]?=w.heap[k]?:=λk hk=>World.putObj_heap_other hk;have hsz:(w.putObj l o').heap.size=w.heap.size:=World.putObj_size;have keep:∀v x,aO G w v x->aO G (w.putObj l o') v x:=λv x hv=>hv.keep (λ_ _ h=>h) (λb i c _ h=>by simp_all) (Aw hl him) (λ_ _ h=>h) (λ_ _ h=>h);refine⟨⟨hs.kept.os,hs.kept.tape,hs.kept.output,by rw[hsz];exact hs.kept.size,λk hk hk'=>?_,λk cs T fr hk q=>?_⟩,hs.size,hx keep (λk ob hk h=>by simp_all) (World.putObj_heap_same hlt),?_,hs.mX,λb i h=>by rw[hsz];exact hs.fo b i h,λi hi=>keep _ _ (hs.tmps i hi),λob cs h=>?_,λob b h=>?_,hs.eU,hs.ck,λt b s e T h=>?_,hs.dR⟩;rw[rD k (by grind)];exact hs.kept.block k hk hk';obtain⟨cs',q1,q2⟩:=hs.kept.shape k cs T fr hk q;refine⟨cs',?_,q2⟩;rw[rD k (λe=>?_)];exact q1;subst e;rw[q1]at hl;obtain rfl:=ak hl;simp[Obj.isCells]at ho;have hcells:∀k cs T fr,w.heap[k]?=some (.cells cs T fr)->k≠l:=λk cs T fr h e=>by subst e;rw[h]at hl;obtain rfl:=ak hl;simp[Obj.isCells]at ho
 refine hs.iY.same rfl rfl rfl rfl oO (λob bs b q q2 q3=>rD b ?_) (λob r q=>rD r (λe=>?_));obtain⟨-,b',q4,p,v,-,q5,-⟩:=hs.iY.at_ ob bs q;grind;obtain⟨cs,T,fr,q5⟩:=hs.iY.cM ob r q;grind;obtain⟨b,h1,h2⟩:=hs.aD ob cs h;grind;obtain⟨h1,h2,h3⟩:=hs.gD ob b h;exact⟨oO,h2,λi=>⟨(h3 i).1,by simp_all⟩⟩;obtain⟨h1,h2,⟨cs,fr,h3,hu⟩,h4⟩:=hs.fS t b s e T h;have hne:b≠l:=λe'=>by subst e';rw[h3]at hl;obtain rfl:=ak hl;simp[Obj.isCells]at ho
 grind
theorem Yc.yd (h:Yc E G S w){l:Nat}{o:Obj}{w':World}(hl:w.heap[l]?=some o)(ho:(∀(es:Array MapEntry)(k:Nat),o≠Obj.map es k)/\∀(m:Option Nat)(s:Nat)(seen:Array Nat)(c:Nat),o≠Obj.mapIter m s seen c)(keep:∀v x,aO G w v x->aO G w' v x)(MJ:∀k ob,k≠l->w.heap[k]?=some ob->w'.heap[k]?=some ob){E':Env}{S':ag}(hE:E'.w0=E.w0)(hm:S'.maps=S.maps)(hi:S'.jg=S.jg)(hC:E'.C=E.C:=by rfl)(hL:E'.qU=E.qU:=by rfl):Yc E' G S' w':=by
 have hkp:∀v x,dh G.bh w v x->dh G.bh w' v x:=λv x hv=>(keep v (.p x) (.p v x hv)).plain;have hmap:∀(b:Nat)(es:Array MapEntry)(k:Nat),w.heap[b]?=some (Obj.map es k)->w'.heap[b]?=some (Obj.map es k):=by grind
 have aj6:∀(b:Nat)(m:Option Nat)(s:Nat)(seen:Array Nat)(c:Nat),w.heap[b]?=some (Obj.mapIter m s seen c)->w'.heap[b]?=some (Obj.mapIter m s seen c):=by grind
 refine⟨λo l h1=>?_,λo b h1=>?_,h.inj,λq x h1=>?_,λq r h1=>?_,h.Ap,h.apart,λo T z k l b gm es g1 g2 g3 g4 i e p g5 g6 g7=>?_⟩;obtain⟨b,gm,es,q1,q2,q3,q4,q5⟩:=h.at_ o l (hm▸h1);grind;obtain⟨q1,q2,es,k,q3⟩:=h.loc o b h1;exact⟨by unfold Env.mine;rw[hE,hL];exact q1,q2,es,k,hmap _ _ _ q3⟩;obtain⟨r,q1,q2⟩:=h.jg q x (hi▸h1);exact⟨r,q1,q2.keep hkp (λ_ h=>h) (λm s seen c h=>aj6 _ _ _ _ _ h) λb es k _ hb=>hmap _ _ _ hb⟩;obtain⟨q1,m,s,seen,c,q2⟩:=h.Ao q r h1;grind;obtain⟨b',acp,es0,h1,h2,-⟩:=h.at_ o l (hm▸g1);obtain rfl:b'=b:=by simp_all
 obtain rfl:=Mx (hmap _ _ _ h2) g4;exact h.room o T z k l b' acp es (hm▸g1) (hC▸g2) h1 h2 i e p g5 g6 g7
theorem Ext.yd (h:Ext E G S a w){l:Nat}{o:Obj}{w':World}(hl:w.heap[l]?=some o)(ho:(∀r,o≠.loop r)/\∀d,o≠.deferred d)(keep:∀v x,aO G w v x->aO G w' v x)(MJ:∀k ob,k≠l->w.heap[k]?=some ob->w'.heap[k]?=some ob){maps:List (Nat×List (AV×FV))}{jg:List (Nat×(Option (AV×AV)×List (AV×AV)))}(hm:Yc E G {S with maps:=maps,jg:=jg} w'):Ext E G {S with maps:=maps,jg:=jg} a w':=by refine⟨hm,h.kX,λi vals fr h1 h2=>?_,h.jX,λi k r st h1 h2=>?_,h.kZ,h.yl,h.lX,?_,h.Af.of keep⟩;obtain⟨h3,h4⟩:=h.bD i vals fr h1 h2;simp_all;obtain⟨h3,h4⟩:=h.loops i k r st h1 h2;grind;obtain⟨ms,h1,h2,h3⟩:=h.marks;grind
theorem Pb {α:Type}{ob o:Nat}{c x:α}:∀{l:List (Nat×α)},getM (sZ l ob c) o=some x->(o=ob/\x=c)\/(o≠ob/\getM l o=some x):=by
 intro l;induction l with
 |nil=>intro h;cases h
 |cons p l ih=>obtain⟨u,i⟩:=p;intro h;simp only[sZ]at h;split at h;rename_i hb;obtain rfl:=aK hb;simp only[getM]at h⊢;split at h;simp_all;grind;rename_i hb;simp only[getM]at h⊢;grind
theorem bp.MK (hs:bp E G S a w){ob b gm AU:Nat}{es es':List MapEntry}{l':List (AV×FV)}(hb:G.mp ob=some b)(hh:w.heap[b]?=some (.map es.toArray gm))(Cv:oQ es' AU)(hlen:es'.length=l'.length)(hent:∀(i:Nat)(e:MapEntry)(p:AV×FV),es'[i]?=some e->l'[i]?=some p->dh G.bh w e.key p.1/\aO G w e.val p.2)(Uy:∀(T:TypeId)(z:Nat)(k:Option AV),getM E.C.ex.Mh ob=some (T,z,k)->∀(i:Nat)(e:MapEntry)(p:AV×FV),es'[i]?=some e->l'[i]?=some p->k≠some p.1->Ee G T z ob e):bp E G {S with maps:=sZ S.maps ob l'} a (w.putObj b (.map es'.toArray AU)):=by
 have hm:=hs.ext'.mps;obtain⟨q1,q2,-⟩:=hm.loc ob b hb;refine hs.putObj (cm:=S.cm) (jg:=S.jg) (defers:=a.defers) (lX:=E.lX) (bD:=E.bD) (loops:=E.loops) (fixed:=E.fixed) hh rfl rfl (E.BU q1) (λ_=>q2 0) λkeep MJ rL=>?_;have hkp:∀v x,dh G.bh w v x->dh G.bh (w.putObj b (.map es'.toArray AU)) v x:=λv x hv=>(keep v (.p x) (.p v x hv)).plain;refine Ext.yd (E:=E) hs.ext' hh ⟨λr=>by simp,λd=>by simp⟩ keep MJ ⟨λo m ho=>?_,λo b' ho=>?_,hm.inj,λq x hx=>?_,λq r hr=>?_,hm.Ap,hm.apart,λo T z k l b0 acp es0 g1 g2 g3 g4 i e p g5 g6 g7=>?_⟩;rcases Pb ho with⟨rfl,rfl⟩|⟨hne,ho⟩;grind;obtain⟨b',acp,es0,h1,h2,h3,h4,h5⟩:=hm.at_ o m ho;exact⟨b',acp,es0,h1,MJ b' _ (λe=>hne (hm.inj o ob b' h1 (e▸hb))) h2,h3,h4,λi e p h6 h7=>⟨hkp _ _ (h5 i e p h6 h7).1,keep _ _ (h5 i e p h6 h7).2⟩⟩;obtain⟨h1,h2,es0,c0,h3⟩:=hm.loc o b' ho;grind;obtain⟨r,h1,h2⟩:=hm.jg q x hx;refine⟨r,h1,h2.keep hkp (λ_ h=>h) (λm s seen c h=>MJ r _ (λe=>?_) h) (Aw hh λ_=>q2 0)⟩;simp_all;obtain⟨h1,m,s,seen,c,h2⟩:=hm.Ao q r hr;grind;rcases Pb g1 with⟨rfl,rfl⟩|⟨hne,ho⟩;grind;obtain⟨b',Pc,YW,h1,h2,-⟩:=hm.at_ o l ho;obtain rfl:b'=b0:=by simp_all
 have h3:=MJ b' _ (λe=>hne (hm.inj o ob b' h1 (e▸hb))) h2;obtain rfl:=Mx h3 g4;exact hm.room o T z k l b' Pc es0 ho g2 h1 h2 i e p g5 g6 g7
theorem bp.acq (hs:bp E G S a w){G':aZ}{maps:List (Nat×List (AV×FV))}{jg:List (Nat×(Option (AV×AV)×List (AV×AV)))}(h1:G'.bh=G.bh)(h2:G'.loc=G.loc)(h3:G'.tail=G.tail)(h4:G'.yl=G.yl)(h5:G'.row=G.row)(hmp:∀o b,G.mp o=some b->G'.mp o=some b)(hit:∀o b,G.it o=some b->G'.it o=some b)(hm:(∀v x,aO G w v x->aO G' w v x)->Yc E G' {S with maps:=maps,jg:=jg} w):bp E G' {S with maps:=maps,jg:=jg} a w:=by have keep:∀v x,aO G w v x->aO G' w v x:=λv x h=>h.keep (λ_ _ h=>h1▸h) (λ_ _ _ _ h=>h) (.refl _ _) (λ_ _ h=>h2▸h) (λ_ _ h=>h3▸h) (λ_ _ h=>h4▸h) hmp hit;refine⟨hs.kept,hs.size,⟨hm keep,hs.ext'.kX,λi vals fr q1 q2=>?_,hs.ext'.jX,hs.ext'.loops,hs.ext'.kZ,λi k r q=>by rw[h4];exact hs.ext'.yl i k r q,hs.ext'.lX,hs.ext'.marks,hs.ext'.Af.of keep⟩,⟨λo bs q=>?_,λo r q=>?_,λo r q=>hs.iY.cM o r (h5▸q)⟩,h1▸hs.mX,h1▸hs.fo,λi hi=>keep _ _ (hs.tmps i hi),λo cs ho=>?_,λo b ho=>?_,λo o' b q q'=>hs.eU o o' b (h2▸q) (h2▸q'),λo t b r q q'=>hs.ck o t b r (h2▸q) (h3▸q'),λt b s e T q=>?_,λt t' b r r' q q'=>hs.dR t t' b r r' (h3▸q) (h3▸q')⟩;obtain⟨q3,q4⟩:=hs.ext'.bD i vals fr q1 q2;simp_all;rw[h2,h5];exact hs.iY.at_ o bs q;rw[h1,h2,h3,h5];exact hs.iY.row o r (h5▸q);obtain⟨b,q1,q2⟩:=hs.aD o cs ho;grind;rw[h1];exact hs.gD o b (h2▸ho);rw[h1];exact hs.fS t b s e T (h3▸q)
theorem ML (hs:bp E G S a w)(q:Nat)(hdn:iy (S.off+q)=false):∃G',bp E G' {(S.kill (S.off+q)).put (some q) (.fu (S.off+q))with maps:=(S.off+q,[])::Am (FV.kill (S.off+q)) (Ae (S.off+q) S.maps)} (a.put (some q) (.map (some w.heap.size))) (w.alloc (.map #[] 0)):=by
 generalize S.off+q=d at hdn;have hb:Below w.heap.size w (w.alloc (.map #[] 0)):=(Below.refl _ _).alloc (av _) _;have h1:=(hs.Oy hb λ_ _=>False).kill d;let G1:aZ:=aZ.free {G with bh:=λb o=>G.bh b o\/(w.heap.size<=b/\b<(w.alloc (.map #[] 0)).heap.size/\False)} d;let G2:aZ:={G1 with mp:=λo=>if o=d then some w.heap.size else G1.mp o};have hfree:∀o b,G1.mp o=some b->o≠d/\G.mp o=some b:=λo b h=>by simp only[G1,aZ.free]at h;simp_all
 have hold:∀o b,G1.mp o=some b->b<w.heap.size:=λo b h=>by obtain⟨-,-,es,k,h3⟩:=hs.ext'.mps.loc o b (hfree o b h).2;grind
 have BX:∀i,¬G1.bh w.heap.size i:=λi h=>by rcases h with h|⟨-,-,h⟩;have :=hs.fo _ _ h;omega;omega
 have h2:bp E G2 {S.kill d with maps:=(d,[])::Am (FV.kill d) (Ae d S.maps),jg:=Ae d S.jg} a (w.alloc (.map #[] 0)):=by refine h1.acq (G':=G2) rfl rfl rfl rfl rfl (λo b h=>?_) (λ_ _ h=>h) λkeep=>?_;grind;have hm:=h1.ext'.mps;refine⟨λo l ho=>?_,λo b ho=>?_,λo o' b q1 q2=>?_,hm.jg,hm.Ao,hm.Ap,λo o' b q1 q2=>?_,λo T z k l b gm es g1 g2 g3 g4 i e p g5 g6 g7=>?_⟩;simp only[getM]at ho;split at ho;rename_i hq;obtain rfl:=aK hq;obtain rfl:=ak ho;exact⟨w.heap.size,0,[],by grind,World.alloc_heap_new w _,⟨by simp,by simp⟩,rfl,by simp⟩;obtain⟨b,gm,es,q1,q2,q3,q4,q5⟩:=hm.at_ o l ho;grind;simp only[G2]at ho;split at ho;obtain rfl:=ak ho;exact⟨.inl ⟨hs.kept.size,by simp_all⟩,BX,_,_,World.alloc_heap_new w _⟩;exact hm.loc o b ho;simp only[G2]at q1 q2;split at q1<;>split at q2;omega;grind;grind;exact hm.inj o o' b q1 q2;simp only[G2]at q1;split at q1;obtain rfl:=ak q1;simp only[G2,G1,aZ.free]at q2;split at q2;grind;have :=(hs.gD o' _ q2).1;omega;exact hm.apart o o' b q1 q2;simp only[getM]at g1;split at g1;simp_all;rename_i hne;have hne:o≠d:=cU (bJ hne);simp only[G2]at g3;rw[aa hne]at g3;exact hm.room o T z k l b gm es g1 g2 g3 g4 i e p g5 g6 g7
 exact⟨G2,h2.put (some q) (v:=.map (some w.heap.size)) (x:=.fu d) (.fu d _ (by grind))⟩
end
theorem tY {α:Type}(k:AV)(x:α)(l:List (AV×α)):Gd k x l=match iz k (iF l)with|some j=>l.set j (k,x)|none=>l++[(k,x)]:=by
 induction l with
 |nil=>rfl
 |cons p l ih=>obtain⟨k',y⟩:=p;simp only[Gd,iF,iz];grind
theorem tZ {k:AV}:∀{ks:List AV}{j:Nat},iz k ks=some j->∃h:j<ks.length,ks[j]=k
 |[],j,h=>by simp[iz]at h
 |x::ks,j,h=>by
  simp only[iz]at h;split at h;rename_i hs;obtain rfl:=ak h;exact⟨by simp,(YA hs).symm⟩;cases hq:iz k ks with
  |none=>simp_all
  |some m=>simp only[hq,ek,bF]at h;subst h;obtain⟨h1,h2⟩:=tZ hq;simp_all
section
variable {E:Env}{G:aZ}{S:ag}{a:Act}{w:World}{o:Oper}
theorem wp_makeMap (hs:bp E G S a w){d:Nat}{t:TypeId}{K:ag->Prop}(ho:o.op=.makeMap t none)(hd:o.dst=some d)(h:Mr S d K){next:Act->World->Prop}{Q:Exit->Act->World->Prop}(hn:∀S' a' w',K S'->mY E S' a' w'->next a' w'):AY E o a w next Q:=by unfold Mr at h;rw[jF]at h;obtain⟨hdn,h⟩:=h;obtain⟨G',hg⟩:=ML hs d hdn;refine wp_value (v:=.map (some w.heap.size)) (w':=w.alloc (.map #[] 0)) ?_ (hn _ _ _ h ⟨G',hd▸hg⟩);have :(Instr.makeMap t none).run E.C.P w=.ok (.map (some w.heap.size)) (w.alloc (.map #[] 0)):=rfl;simp[execOp,ho,this]
theorem RR {P:Program}{t kT eT:TypeId}(hu:P.underlying t=some (.map kT eT)){L:List gC}(hL:dZ P 40 kT=some L){k:AV}(hk:ij (gM P kT) L k=true){b gm:Nat}{es:List MapEntry}(hb:w.heap[b]?=some (.map es.toArray gm)){ks:List AV}(hks:rR (gM P kT) L es ks)(v:Value):∃(es':List MapEntry) (AU:Nat),(Instr.mapUpdate t (.map (some b)) (tv (gM P kT) k.cells) v).run P w=.ok () (w.putObj b (.map es'.toArray AU))/\(oQ es gm->oQ es' AU)/\match iz k ks with|some j=>es'.length=es.length/\∀i e',es'[i]?=some e'->if i=j then e'.key=tv (gM P kT) k.cells/\e'.val=v/\∃e0,es[j]?=some e0/\e'.born=e0.born else es[i]?=some e'|none=>∃e',es'=es++[e']/\e'.key=tv (gM P kT) k.cells/\e'.val=v/\e'.born=gm:=by
 have MD:=(rQ (P:=P) (em:=false) 40).1 kT L 10000 w k.cells dD hL (lR hk);have hfind:=vJ (w:=w) dD hL hk hks;have hg:(Go.getObj b).run P w=.ok (.map es.toArray gm) w:=by simp[Go.getObj,Sem.run,hb]
 have AX:∀o',(Go.setObj b o').run P w=.ok () (w.putObj b o'):=λo'=>by simp[Go.setObj,Sem.run,hb,World.putObj]
 cases fJ:iz k ks with
 |none=>
  rw[fJ]at hfind;refine⟨es++[({key:=tv (gM P kT) k.cells,val:=v,born:=gm}:MapEntry)],gm+1,?_,λhf=>⟨λe he=>?_,?_⟩,_,rfl,rfl,rfl,rfl⟩;have he:(es++[({key:=tv (gM P kT) k.cells,val:=v,born:=gm}:MapEntry)]).toArray=es.toArray.push {key:=tv (gM P kT) k.cells,val:=v,born:=gm}:=by simp
  rw[he];simp[Instr.mapUpdate,run_underlying hu,hg,MD,hfind,found,AX];rcases bf.1 he with he|he;have :=hf.lt e he;omega;simp_all;rw[aF,mc];refine⟨hf.nd,by simp,λx hx y hy=>?_⟩;obtain⟨e,he,rfl⟩:=aB.1 hx;have :=hf.lt e he;grind
 |some j=>
  rw[fJ]at hfind;obtain⟨hj,hkj⟩:=tZ fJ;have Yd:j<es.length:=by have :=hks.1;omega
  obtain⟨k1,k2⟩:=hks.2 j _ _ (an Yd) (an hj);rw[hkj]at k1;refine⟨(es.toArray.modify j λe=>{e with key:=tv (gM P kT) k.cells,val:=v}).toList,gm,?_,λhf=>⟨λe he=>?_,?_⟩,by simp,λi e' he=>?_⟩;rw[Ct];simp[Instr.mapUpdate,run_underlying hu,hg,MD,hfind,found,Yd,k1,Cc hk,AX];obtain⟨i,hi⟩:=iL he;rw[rU,jk]at hi;split at hi;rename_i e;subst e;simp only[Cw,an Yd,ek,bF]at hi;subst hi;have :=hf.lt _ (aT Yd);omega;exact hf.lt _ (bP (by simpa using hi));have :((es.toArray.modify j λe=>{e with key:=tv (gM P kT) k.cells,val:=v}).toList.map (·.born))=es.map (·.born):=by apply gU;intro i;rw[aJ,rU,jk,aJ];split;grind;simp
  rw[this];exact hf.nd;grind
theorem wp_upd (hs:bp E G S a w){t:TypeId}{m k x:Operand}{K:ag->Prop}(ho:o.op=.mapUpdate t m k x\/o.op=.insert t m k x)(h:Ul E.C S o.dst t (S.val m) (S.val k) (S.val x) K){next:Act->World->Prop}{Q:Exit->Act->World->Prop}(hn:∀S' a' w',K S'->mY E S' a' w'->next a' w'):AY E o a w next Q:=by
 have hm:=aO.val hs m;have hk0:=aO.val hs k;have hx:=aO.val hs x;unfold Ul at h;split at h;rename_i kT eT _ ht;have hu:=(E.C.ok ht).map;split at h;rename_i ob vo;rw[vo]at hm;split at h;rename_i ki kk l hki hkk hl;obtain⟨L,hL,hk,hall,l',hl',h⟩:=h;obtain⟨hro,h⟩:(∀T z k,getM E.C.ex.Mh ob=some (T,z,k)->k=some kk)/\K ((S.Fa (sZ S.maps ob l')).put o.dst (.p (.eS []))):=by grind
 have hagg:=(E.C.ok hki).gM;rw[<-hagg]at hk hall;have hkey:=sO (hk0.eW hkk) hk;generalize KL:a.eval m=vm at hm;cases hm with
 |fu _ b hb=>
  obtain⟨b',gm,es,h1,h2,h3,h4,h5⟩:=hs.ext'.mps.at_ ob l hl;rw[hb]at h1;obtain rfl:=ak h1;have hka:=MC (w:=w) h4 (λi e p a b=>(h5 i e p a b).1) hall;obtain⟨es',AU,hrun,Cv,hent⟩:=RR (w:=w) hu hL hk h2 hka (a.eval x);have ahp:(execOp a.eval o).run E.C.P w=.ok .skip (w.putObj b (.map es'.toArray AU)):=by rcases ho with ho|ho<;>simp[execOp,ho,KL,hkey,hrun]
  have hg:=hs.MK (l':=l') hb h2 (Cv h3) (by rw[<-hl',tY];grind) (by
   intro i e p he hp;rw[<-hl',tY]at hp;cases fJ:iz kk (iF l)with
   |none=>
    rw[fJ]at hent hp;simp only at hp;obtain⟨e',rfl,q1,q2,-⟩:=hent;by_cases hi:i<es.length;grind;rw[eu oO]at he;rw[eu oO,<-h4]at hp;cases hz:i-es.length with
    |zero=>rw[hz]at he hp;simp at he hp;subst he;subst hp;exact⟨by rw[q1,<-hkey];exact hk0.eW hkk,by simp_all⟩
    |succ z=>simp_all
   |some j=>
    rw[fJ]at hent hp;simp only at hp;have :=hent.2 i e he;by_cases e0:i=j;subst e0;rw[af rfl]at this;have BL:i<l.length:=by have :=(aG.1 hp).1;simpa using this
    rw[List.getElem?_set_self BL]at hp;obtain rfl:=ak hp;exact⟨by rw[this.1,<-hkey];exact hk0.eW hkk,by simp_all⟩;grind) (λT z k0 afk i e p he hp hne=>by
   rw[hro T z k0 afk]at hne;rw[<-hl',tY]at hp;cases fJ:iz kk (iF l)with
   |none=>rw[fJ]at hent hp;simp only at hp;obtain⟨e',rfl,q1,q2,-⟩:=hent;by_cases hi:i<es.length;rw[cV hi]at he;rw[cV oO]at hp;exact hs.ext'.mps.room ob T z k0 l b gm es hl afk hb h2 i e p he hp (by simp_all);grind
   |some j=>rw[fJ]at hent hp;simp only at hp;have :=hent.2 i e he;by_cases e0:i=j;grind;rw[aa e0]at this;rw[vP (cU e0)]at hp;exact hs.ext'.mps.room ob T z k0 l b gm es hl afk hb h2 i e p this hp (by simp_all))
  refine⟨λf _=>Env.gd f,?_⟩;rw[Oper.semAt_eq _ _ _ (λc=>by grind),ahp];exact hn _ _ _ h ⟨G,hg.put o.dst (v:=undef) (.p _ _ (dh.eS (bh:=G.bh) [] [] rfl (λi c x h _=>by simp_all)))⟩
 simp_all;simp_all;simp_all
theorem Ej {d o:Nat}{z:AV}{cells:List FV}:∀{l:List (Nat×List FV)},Qv.getObj (DY d z l) o=some cells->∃cs,Qv.getObj l o=some cs/\cells=FV.Yb d z cs:=by
 intro l;induction l with
 |nil=>intro h;cases h
 |cons p l ih=>obtain⟨u,i⟩:=p;intro h;simp only[DY,Qv.getObj]at h⊢;grind
theorem HJ {d o:Nat}{z:AV}{l:List (Nat×List FV)}(h:Qv.getObj l o=none):Qv.getObj (DY d z l) o=none:=by
 cases h':Qv.getObj (DY d z l) o with
 |none=>rfl
 |some cs=>obtain⟨cs',h2,-⟩:=Ej h';simp_all
theorem bp.RS (hs:bp E G S a w){d:Nat}{ks vs:List AV}(hf:Yn S d ks vs):∃G',bp E G' (S.Oi d (.mp ks vs)) a w/\∀v x,aO G w v x->aO G' w v (x.fm d (.mp ks vs)):=by
 obtain⟨l,hl,rfl,hv⟩:=hf.mp;have hm:=hs.ext'.mps;obtain⟨hdn,hl⟩:=VL hl;obtain⟨B,gm,es,h1,h2,h3,h4,h5⟩:=hm.at_ d l hl;obtain⟨q1,q2,-⟩:=hm.loc d B h1;have q1:=E.Hu q1 hdn;obtain⟨hlen,uJ⟩:=FV.iV hv;let G':aZ:={G with bh:=λb o=>G.bh b o\/(b=B/\o=0),mp:=λo=>if o=d then none else G.mp o};have afl:=(bq.1 h2).1;have kp:∀{v:Value}{y:AV},dh G.bh w v y->dh G'.bh w v y:=λhv=>hv.keep (λb o h=>.inl h) (λ_ _ _ _ h=>h) (.refl _ _);have fmp:∀o b,G'.mp o=some b->o≠d/\G.mp o=some b:=λo b h=>by grind
 have hz:dh G'.bh w (.map (some B)) (.mp (iF l) vs):=by
  refine .mp B gm es (iF l) vs (by rw[nh,aj];omega) (by rw[hlen,zA,aj];omega) (.inr ⟨rfl,rfl⟩) h2 h3 (λi e x he hx=>?_) (λi e x he hx=>?_);rw[nh,aJ]at hx;grind;obtain⟨y,hy,hyx⟩:=uJ i x hx;rw[zA,aJ]at hy;cases hp:l[i]?with
  |none=>simp_all
  |some p=>simp only[hp,ek,bF]at hy;subst hy;exact kp ((h5 i e p he hp).2.eW hyx)
 have up:∀v x,aO G w v x->aO G' w v (x.fm d (.mp (iF l) vs)):=λv x hv=>hv.fm (λb o h=>.inl h) (λb hb=>by simp_all) (λ_ _ h=>h) (λ_ _ h=>h) (λ_ _ h=>h) (λo b hne h=>by grind) (λ_ _ h=>h);have Hv:lN (FV.fm d (.mp (iF l) vs)) G G' S (S.Oi d (.mp (iF l) vs)) w:=by refine⟨λ_=>rfl,λo l' h=>?_,λq x h=>⟨h,λ_ h=>h⟩,λo b h=>(fmp o b h).2,λ_ _ h=>h,λb i es' k hb ho h=>?_,λ_ h=>.inl h,λ_ _ h=>.inl h,λ_ _ h=>h⟩;obtain⟨l0,g1,g2⟩:=vU h;obtain⟨g3,g4⟩:=pg g1;grind;rcases h with h|⟨rfl,-⟩;omega;obtain⟨o,ho⟩:=ho;obtain⟨g1,g2⟩:=fmp o _ ho;exact absurd (hm.inj o d _ g2 h1) g1
 refine⟨G',⟨hs.kept,hs.size,hs.ext'.move (S':=S.Oi d (.mp (iF l) vs)) (FV.fm d (.mp (iF l) vs)) rfl rfl rfl up (.refl _) Hv,?_,?_,?_,λi hi=>up _ _ (hs.tmps i hi),λo cs ho=>?_,λo b ho=>?_,hs.eU,λo t b r h h'=>lB.mono (hs.ck o t b r h h') (λbs q=>⟨bs,q⟩) (λcs q=>?_),λt b s e T h=>?_,hs.dR⟩,up⟩;refine hs.iY.keep rfl rfl (λo bs q=>⟨q,rfl,rfl⟩) (λo _ _ q=>HJ q) (λ_ _ e=>e) (av _) (λ_ _ _ _ _ _=>rfl) (λ_ _ _=>rfl) (λo r i e hi=>?_) (λ_ _ o' _ e=>e) (λ_ _ t q _ e=>⟨t,q,e⟩);rcases hi with hi|⟨rfl,-⟩;omega;obtain⟨cs,T,fr,g⟩:=hs.iY.cM o _ e;simp_all;rintro b o (h|⟨rfl,-⟩);exact hs.mX b o h;omega;rintro b o (h|⟨rfl,-⟩);exact hs.fo b o h;omega;obtain⟨cs0,g2,rfl⟩:=Ej ho;obtain⟨b,g3,g4⟩:=hs.aD o cs0 g2;refine⟨b,g3,λi x hx=>?_⟩;rw[FV.vw,aJ]at hx;grind;obtain⟨k1,k2,k3⟩:=hs.gD o b ho;refine⟨k1,k2,λi=>⟨?_,(k3 i).2⟩⟩;rintro(h|⟨rfl,-⟩);simp_all;exact hm.apart d o _ h1 ho;obtain⟨cs0,g2,rfl⟩:=Ej q;exact⟨cs0,g2,by rw[FV.vw,aj]⟩;obtain⟨k1,k2,⟨cs,fr,kt,ku⟩,k3⟩:=hs.fS t b s e T h;grind
theorem bp.Oi (hs:bp E G S a w){d:Nat}{ks vs:List AV}(hf:Yn S d ks vs):∃G',bp E G' (S.Oi d (.mp ks vs)) a w:=let⟨G',h,_⟩:=hs.RS hf;⟨G',h⟩
end
end Qv
