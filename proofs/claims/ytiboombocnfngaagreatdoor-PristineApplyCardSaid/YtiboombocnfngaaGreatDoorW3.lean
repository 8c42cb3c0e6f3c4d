/- Part 3 of the proof: its lemmas. No condition. -/
import Derived.Test.YtiboombocnfngaaGreatDoorW2
import Derived.Laws.Append
import Derived.Laws.Tables
import Derived.Laws.AppendOwn
import Derived.Laws.MakeOwn
import Derived.RangeFuncNested
set_option maxRecDepth 10000
set_option maxHeartbeats 80000000
set_option linter.all false
namespace Qv
open Go Go.RowKit
section
variable {E:Env}{G:bl}{S:an}{a:Act}{w:World}{o:Oper}
def Env.jv (E:Env):Fence:=match E.mD with|none=>Fence.wide|some l=>Fence.wide.inRound l
theorem Env.gD (f:FuncId):E.jv.fn f:=by unfold Env.jv;split<;>trivial
theorem Env.kU:E.jv.depth=none:=by unfold Env.jv;split<;>rfl
theorem Env.zm:E.jv.round=E.mD:=by unfold Env.jv;split<;>rename_i h<;>rw[h]<;>rfl
theorem mY {P:Program}{f:FuncId}{args:Array Value}{w:World}{R:Ending->World->Prop}(h:Calls P f args w R):CallsIn E.jv 0 P f args w R:=by unfold Env.jv;split;exact callsIn_wide.2 h;exact CallsIn.inRound _ (callsIn_wide.2 h)
abbrev BP (E:Env)(o:Oper)(a:Act)(w:World)(next:Act->World->Prop)(Q:Exit->Act->World->Prop):Prop:=o.wpIn E.jv 0 E.C.P a w next Q
theorem WK {P:Program}{ρ:Operand->Value}{v:Value}{w':World}(h:(execOp ρ o).run P w=.ok (.value v) w'):∀c,o.op≠.defer c:=λc hc=>by unfold execOp at h;rw[hc]at h;simp only[Sem.run_bind]at h;cases hr:(resolve ρ c o.type).run P w<;>simp[hr,Result.andThen]at h
theorem wp_value {v:Value}{w':World}{next:Act->World->Prop}{Q:Exit->Act->World->Prop}(h:(execOp a.eval o).run E.C.P w=.ok (.value v) w')(hn:next (a.put o.dst v) w'):BP E o a w next Q:=by refine⟨λf _=>Env.gD f,?_⟩;rw[Oper.semAt_eq _ _ _ (WK h),h];exact hn
theorem wp_of_yields {K:FV->Prop}(hs:bA E G S a w)(h:Yields E G a w o K){next:Act->World->Prop}{Q:Exit->Act->World->Prop}(hn:∀x v G' w',K x->bA E G' S a w'->aU G' w' v x->next (a.put o.dst v) w'):BP E o a w next Q:=by obtain⟨v,x,w',h1,h2,h3,h4⟩:=h;exact wp_value h1 (hn x v _ w' h2 (hs.ext h3) h4)
theorem ur (hs:bA E G S a w)(args:List Operand):(args.map a.eval).length=(args.map S.val).length/\∀(i:Nat)(c:Value)(x:FV),(args.map a.eval)[i]?=some c->(args.map S.val)[i]?=some x->aU G w c x:=by
 refine⟨by simp,λi c x hc hx=>?_⟩;rw[aM]at hc hx;cases h0:args[i]?with
 |none=>simp_all
 |some y=>simp[h0]at hc hx;subst hc;subst hx;exact aU.val hs y
theorem oa {cs:List Value}{xs:List FV}{ys:List AV}(h:cs.length=xs.length/\∀(i:Nat)(c:Value)(x:FV),cs[i]?=some c->xs[i]?=some x->aU G w c x)(hy:FV.gx xs=some ys):cs.length=ys.length/\∀(i:Nat)(c:Value)(y:AV),cs[i]?=some c->ys[i]?=some y->dH G.br w c y:=by obtain⟨h1,h2⟩:=FV.jk hy;refine⟨oO,λi c y hc hy=>?_⟩;obtain⟨x,hx,hxy⟩:=h2 i y hy;exact(h.2 i c x hc hx).fA hxy
theorem xm {br:Nat->Nat->Prop}{cs ds:List Value}{xs ys:List AV}(h:cs.length=xs.length/\∀(i:Nat)(c:Value)(x:AV),cs[i]?=some c->xs[i]?=some x->dH br w c x)(h':ds.length=ys.length/\∀(i:Nat)(c:Value)(x:AV),ds[i]?=some c->ys[i]?=some x->dH br w c x):(cs++ds).length=(xs++ys).length/\∀(i:Nat)(c:Value)(x:AV),(cs++ds)[i]?=some c->(xs++ys)[i]?=some x->dH br w c x:=by grind
theorem uu {P:Program}{ρ:Operand->Value}{f:Operand}{args:Array Operand}{types:Array TypeId}{g:FuncId}{first captured:Array Value}{fn:Func}(ho:o.op=.call ⟨.value f,args,types⟩)(hf:ρ f=.func (.func g) first captured)(h1:P.funcs[g]?=some fn)(h2:fn.body.isNone=false)(h3:(fn.name== "runtime.NumGoroutine")=false):(execOp ρ o).run P w=.ok (.enter g (first++args.map ρ++captured)) w:=by
 have h3':¬fn.name= "runtime.NumGoroutine" :=by simpa using h3
 have h2':¬fn.body=none:=λe=>by simp_all
 simp[execOp,ho,resolve,hf,Deferred.ofValue,invoke,callFunc,h1,h2',h3']
theorem wp_call (hs:bA E G S a w){f:Operand}{args:Array Operand}{types:Array TypeId}{g:FuncId}{first captured:Array Value}{xs:List AV}{R:dJ->Prop}(ho:o.op=.call ⟨.value f,args,types⟩)(hf:a.eval f=.func (.func g) first captured)(hr:(first++args.map a.eval++captured).toList.length=xs.length/\∀(i:Nat)(c:Value)(x:AV),(first++args.map a.eval++captured).toList[i]?=some c->xs[i]?=some x->dH G.br w c x)(hc:av E.C g xs R){next:Act->World->Prop}{Q:Exit->Act->World->Prop}(hn:∀r v w',R r->Below w.heap.size w w'->oz G.br w.heap.size w' v r->next (a.put o.dst v) w'):BP E o a w next Q:=by obtain⟨⟨fn,h1,h2,h3⟩,hc⟩:=hc;have hJ:=hs.J;have :=hc G.br w (first++args.map a.eval++captured).toList hJ.1 hJ.2 hs.fJ hr.1 hr.2;refine⟨λf _=>Env.gD f,?_⟩;rw[Oper.semAt_eq _ _ _ (λc=>by simp_all),uu ho hf h1 h2 h3,Oper.uponIn_enter];refine⟨λh=>(by rw[Env.kU]at h;grind),mY (Calls.mono this ?_)⟩;grind
theorem ZG {α:Type}{e:Nat}:∀{l:List (List α)},(∀zs,zs∈l->zs.length=e)->∀{i j:Nat}{zs:List α}{z:α},l[i]?=some zs->zs[j]?=some z->l.flatten[i*e+j]?=some z:=by
 intro l;induction l with
 |nil=>simp_all
 |cons y ys ih=>
  intro he i j zs z h1 h2;have hy:=he y (by simp);rw[nU];cases i with
  |zero=>grind
  |succ i=>grind
theorem oz.Tc {G:bl}{B:Nat}{w':World}{v:Value}{r:dJ}(h:oz G.br B w' v r):aU {G with br:=λb o=>G.br b o\/(B<=b/\b<w'.heap.size)} w' v r.plain:=by
 have conv:∀{uM:Nat->Nat->Prop}{v:Value}{x:AV},(∀b o,uM b o->G.br b o\/B<=b)->dH uM w' v x->dH (λb o=>G.br b o\/(B<=b/\b<w'.heap.size)) w' v x:=λh1 h2=>h2.vR (λb o c hi hc=>⟨(h1 b o hi).imp id λh=>⟨h,World.block_lt_of_cell? w' _ hc⟩,hc⟩) λb es k hi hb=>⟨(h1 b 0 hi).imp id λh=>⟨h,(bz.1 hb).1⟩,hb⟩;cases r with
 |val x=>exact .p _ _ (conv (λb o h=>h) h)
 |fresh T bP xs=>refine .p _ _ ?_;obtain⟨ad,c,rfl,h|⟨b,off,cs,fr,-,-,-,-,-,-,h⟩⟩:=h;exact conv (λb o h=>h) h.2.2;grind
 |own rest T bP xss=>
  obtain⟨b,c,cs,fr,us,rfl,h1,h2,h3,h4,h5,h6,h7,h8,h9,h10⟩:=h;have hI:∀b' o,Zf G.br B b b' o->G.br b' o\/B<=b':=λb' o h=>h.imp id λh=>h.1;have YS:dH (λb o=>G.br b o\/(B<=b/\b<w'.heap.size)) w' (.slice (some ⟨b,0,none⟩) xss.length c) (.sl xss):=dH.PR (bP:=bP) h4 (λi ys hys=>(h5 ys (bW hys)).1) λi ys j y q1 q2=>by have q3:=ZG (λzs hz=>(h5 zs hz).1) q1 q2;obtain⟨u,q4,q5⟩:=h9 _ _ q3;exact⟨u,(h5 ys (bW q1)).2 y (bW q2),by simp_all,.inr ⟨h1,h2⟩,conv hI q5⟩
  cases rest with
  |none=>exact .p _ _ YS
  |some r=>obtain⟨g1,g2⟩:=h10 r rfl;refine .p _ _ (.eN (_::us) (_::r) (by grind) λi u x q1 q2=>?_);grind
 |vf x=>refine aU.vR (G:=bare (lT G.br B)) h (λb o c hi hc=>⟨?_,hc⟩) (λb es k hi hb=>⟨hi.imp id λh=>⟨h,(bz.1 hb).1⟩,hb⟩) (λo b h=>by cases h) (λt r h=>by cases h) (λl k h=>by cases h) (λl k h=>by cases h) (λl k h=>by cases h);exact hi.imp id λh=>⟨h,World.block_lt_of_cell? w' _ hc⟩
theorem Td {v:Value}{g:FuncId}{first captured:List AV}(h:aU G w v (.p (.fn (.func g) first captured))):∃fs cs:List Value,v=.func (.func g) fs.toArray cs.toArray/\(fs.length=first.length/\∀(i:Nat)(c:Value)(x:AV),fs[i]?=some c->first[i]?=some x->dH G.br w c x)/\(cs.length=captured.length/\∀(i:Nat)(c:Value)(x:AV),cs[i]?=some c->captured[i]?=some x->dH G.br w c x):=by
 cases h with
 |p v x h=>
  cases h with
  |fn f fs cs first captured h1 h2 h3 h4=>grind
theorem NI {v:Value}{g:FuncId}{first captured:List FV}(h:aU G w v (.fn (.func g) first captured)):∃fs cs:List Value,v=.func (.func g) fs.toArray cs.toArray/\(fs.length=first.length/\∀(i:Nat)(c:Value)(x:FV),fs[i]?=some c->first[i]?=some x->aU G w c x)/\(cs.length=captured.length/\∀(i:Nat)(c:Value)(x:FV),cs[i]?=some c->captured[i]?=some x->aU G w c x):=by
 cases h with
 |fn f fs cs first captured h1 h2 h3 h4=>grind
theorem mq {cs ds:List Value}{xs ys:List FV}(h:cs.length=xs.length/\∀(i:Nat)(c:Value)(x:FV),cs[i]?=some c->xs[i]?=some x->aU G w c x)(h':ds.length=ys.length/\∀(i:Nat)(c:Value)(x:FV),ds[i]?=some c->ys[i]?=some x->aU G w c x):(cs++ds).length=(xs++ys).length/\∀(i:Nat)(c:Value)(x:FV),(cs++ds)[i]?=some c->(xs++ys)[i]?=some x->aU G w c x:=by grind
theorem WL (hs:bA E G S a w){f:Operand}{args:Array Operand}{types:Array TypeId}(ho:o.op=.call ⟨.value f,args,types⟩){KK:FuncId->List AV->Prop}(h:match S.val f with
 |.p (.fn (.func g) first captured)=>match FV.gx (args.toList.map S.val)with|some xs=>KK g (first++xs++captured)|none=>False
 |.fn (.func g) first captured=>match FV.gx (first++args.toList.map S.val++captured)with|some xs=>KK g xs|none=>False
 |_=>False):∃g first captured xs,a.eval f=.func (.func g) first captured/\KK g xs/\((first++args.map a.eval++captured).toList.length=xs.length/\∀(i:Nat)(c:Value)(x:AV),(first++args.map a.eval++captured).toList[i]?=some c->xs[i]?=some x->dH G.br w c x):=by have hf:=aU.val hs f;generalize S.val f=vf at h hf;split at h;split at h;rename_i xs hxs;obtain⟨fs,cs,hv,h1,h2⟩:=Td hf;refine⟨_,fs.toArray,cs.toArray,_,hv,h,?_⟩;have h3:=xm (xm h1 (oa (ur hs args.toList) hxs)) h2;grind;simp_all;split at h;rename_i xs hxs;obtain⟨fs,cs,hv,h1,h2⟩:=NI hf;refine⟨_,fs.toArray,cs.toArray,_,hv,h,?_⟩;have h3:=oa (mq (mq h1 (ur hs args.toList)) h2) hxs;grind;simp_all;simp_all
theorem wp_callV (hs:bA E G S a w){f:Operand}{args:Array Operand}{types:Array TypeId}(ho:o.op=.call ⟨.value f,args,types⟩){K:FV->Prop}(h:AA E.C (S.val f) (args.toList.map S.val) K){next:Act->World->Prop}{Q:Exit->Act->World->Prop}(hn:∀x v G' w',K x->bA E G' S a w'->aU G' w' v x->next (a.put o.dst v) w'):BP E o a w next Q:=by obtain⟨g,first,captured,xs,hv,⟨R,hc,hk⟩,hr⟩:=WL hs ho (KK:=λg xs=>∃R,av E.C g xs R/\∀r,R r->K r.plain) (by unfold AA at h;omega);refine wp_call hs ho hv hr hc λr v w' hR hb hok=>?_;exact hn _ v _ w' (hk r hR) (hs.ext hb) hok.Tc
theorem FT (hs:bA E G S a w){K:FV->Prop}(h:eV E.C S o.op K){next:Act->World->Prop}{Q:Exit->Act->World->Prop}(hn:∀x v G' w',K x->bA E G' S a w'->aU G' w' v x->next (a.put o.dst v) w'):BP E o a w next Q:=by
 cases hop:o.op with
 |move x=>rw[hop]at h;simp only[eV,force_eq]at h;exact wp_of_yields hs (Yields.same (by simp[execOp,hop]) h (aU.val hs x)) hn
 |assign x=>rw[hop]at h;simp only[eV,force_eq]at h;exact wp_of_yields hs (Yields.same (by simp[execOp,hop]) h (aU.val hs x)) hn
 |pick c x y=>rw[hop]at h;exact wp_of_yields hs (PZ hs hop h) hn
 |binOp op t x y yt=>rw[hop]at h;simp only[eV]at h;split at h;rename_i hy;exact wp_of_yields hs (PT hs hop hy h) hn;split at h;rename_i hy;exact wp_of_yields hs (PV hs hop hy h) hn;exact wp_of_yields hs (Tb hs hop h) hn
 |unOp op t x=>rw[hop]at h;exact wp_of_yields hs (Qa hs hop h) hn
 |convert src dst x=>rw[hop]at h;exact wp_of_yields hs (Ii hs hop h) hn
 |makeInterface t x=>rw[hop]at h;exact wp_of_yields hs (zj hs hop h) hn
 |makeFunc fn first captured=>rw[hop]at h;simp only[eV,kH]at h;exact wp_of_yields hs (yx hs hop h) hn
 |build t parts=>rw[hop]at h;exact wp_of_yields hs (NF hs hop h) hn
 |buildSlice t len parts=>rw[hop]at h;exact wp_of_yields hs (Dm hs hop h) hn
 |load t x=>rw[hop]at h;exact wp_of_yields hs (PY hs hop h) hn
 |nilCheck x=>rw[hop]at h;exact wp_of_yields hs (GO hs hop h) hn
 |fieldAddr s x f=>rw[hop]at h;exact wp_of_yields hs (ER hs hop h) hn
 |field s x f=>rw[hop]at h;exact wp_of_yields hs (NB hs hop h) hn
 |indexAddr t x i=>rw[hop]at h;exact wp_of_yields hs (ES hs hop h) hn
 |index t x i=>rw[hop]at h;exact wp_of_yields hs (NC hs hop h) hn
 |lookup t x i ok=>rw[hop]at h;exact wp_of_yields hs (KB hs hop h) hn
 |slice t x lo hi mx=>
  rw[hop]at h;cases mx with
  |none=>exact wp_of_yields hs (ND hs hop h) hn
  |some m=>exact h.elim
 |extract x i=>rw[hop]at h;exact wp_of_yields hs (Ij hs hop h) hn
 |call c=>
  rw[hop]at h;obtain⟨callee,args,types⟩:=c;cases callee with
  |value f=>exact wp_callV hs hop h hn
  |invoke r m=>exact h.elim
  |builtin b=>exact wp_of_yields hs (zk hs hop h) hn
 |_=>rw[hop]at h;exact h.elim
end
section
variable {E:Env}{G:bl}{S:an}{a:Act}{w:World}{o:Oper}
theorem lH {d o:Nat}{cells:List FV}:∀{l:List (Nat×List FV)},Qv.getObj (eH d l) o=some cells->o≠d/\∃cs,Qv.getObj l o=some cs/\cells=FV.fu d cs:=by
 intro l;induction l with
 |nil=>intro h;cases h
 |cons p l ih=>
  obtain⟨u,i⟩:=p;intro h;simp only[eH]at h;split at h;rename_i hb;obtain rfl:=aN hb;obtain⟨h1,cs,h2,h3⟩:=ih h;refine⟨h1,cs,?_,h3⟩;simp only[Qv.getObj];have :Nat.beq u o=false:=by cases hb:Nat.beq u o;rfl;simp_all
  simp_all;rename_i hb;simp only[Qv.getObj]at h⊢;grind
theorem kW {d o:Nat}{bs:List UInt8}:∀{l:List (Nat×List UInt8)},me (CI d l) o=some bs->o≠d/\me l o=some bs:=by
 intro l;induction l with
 |nil=>intro h;cases h
 |cons p l ih=>
  obtain⟨u,i⟩:=p;intro h;simp only[CI]at h;split at h;rename_i hb;obtain rfl:=aN hb;obtain⟨h1,h2⟩:=ih h;refine⟨h1,?_⟩;simp only[me];have :Nat.beq u o=false:=by cases hb:Nat.beq u o;rfl;simp_all
  simp_all;rename_i hb;simp only[me]at h⊢;grind
theorem oU {d o:Nat}{l:List (Nat×List FV)}(h:Qv.getObj l o=none):Qv.getObj (eH d l) o=none:=by
 cases h':Qv.getObj (eH d l) o with
 |none=>rfl
 |some cs=>obtain⟨-,cs',h2,-⟩:=lH h';simp_all
theorem qj {α:Type}{d o:Nat}{x:α}:∀{l:List (Nat×α)},getM (Bd d l) o=some x->o≠d/\getM l o=some x:=by
 intro l;induction l with
 |nil=>intro h;cases h
 |cons p l ih=>
  obtain⟨u,i⟩:=p;intro h;simp only[Bd]at h;split at h;rename_i hb;obtain rfl:=aN hb;obtain⟨h1,h2⟩:=ih h;refine⟨h1,?_⟩;simp only[getM];have :Nat.beq u o=false:=by cases hb:Nat.beq u o;rfl;simp_all
  simp_all;rename_i hb;simp only[getM]at h⊢;grind
theorem mj.afL {G G':bl}{S S':an}{w:World}(d:Nat)(h1:S'.maps=(S.kill d).maps)(h2:S'.jD=(S.kill d).jD)(h3:mj (FV.kill d) G G' S (S.kill d) w):mj (FV.kill d) G G' S S' w:=⟨h3.p,λo l h=>h3.maps o l (h1▸h),λq x h=>h3.jD q x (h2▸h),h3.mp,h3.it,h3.afH,h3.afI,h3.loc,h3.tail⟩
theorem xo {f:FV->FV}{o:Nat}{l':List (AV×FV)}:∀{ms:List (Nat×List (AV×FV))},getM (Bj f ms) o=some l'->∃l,getM ms o=some l/\l'=yO f l:=by
 intro ms;induction ms with
 |nil=>intro h;cases h
 |cons p ms ih=>obtain⟨u,i⟩:=p;intro h;simp only[Bj,getM]at h⊢;grind
def bl.free (G:bl)(d:Nat):bl:={G with loc:=λo=>if o=d then none else G.loc o,tail:=λt=>if t=d then none else G.tail t,row:=λo=>if o=d then none else G.row o,mp:=λo=>if o=d then none else G.mp o,it:=λo=>if o=d then none else G.it o}
theorem mj.afM {G G':bl}{S:an}{w:World}(d:Nat)(hi:∀b i es k,w.heap[b]?=some (.map es k)->(∃o,G'.mp o=some b)->G'.br b i->G.br b i)(hi':∀b,G.br b 0->G'.br b 0)(hmp:∀o b,o≠d->G.mp o=some b->G'.mp o=some b)(WM:∀o b,G'.mp o=some b->G.mp o=some b)(hit:∀o b,o≠d->G.it o=some b->G'.it o=some b)(WN:∀o b,G'.it o=some b->G.it o=some b)(hl:∀o b,G'.loc o=some b->G.loc o=some b)(ht:∀q r,G.tail (.inr q)=some r->G'.tail (.inr q)=some r:=by first|exactλ_ _ h=>h|exactλ_ _ h=>(af (λe=>nomatch e)).trans h):mj (FV.kill d) G G' S (S.kill d) w:=by refine⟨λ_=>rfl,λo l' h=>?_,λq x h=>?_,WM,WN,hi,hi',λo b h=>.inl (hl o b h),ht⟩;obtain⟨l,h1,h2⟩:=xo h;obtain⟨h3,h4⟩:=qj h1;simp_all;obtain⟨h1,h2⟩:=qj h;simp_all
theorem mj.kill {G G':bl}{S:an}{w:World}(d:Nat)(hi:G'.br=G.br)(hmp:∀o b,o≠d->G.mp o=some b->G'.mp o=some b)(WM:∀o b,G'.mp o=some b->G.mp o=some b)(hit:∀o b,o≠d->G.it o=some b->G'.it o=some b)(WN:∀o b,G'.it o=some b->G.it o=some b)(hl:∀o b,G'.loc o=some b->G.loc o=some b)(ht:∀q r,G.tail (.inr q)=some r->G'.tail (.inr q)=some r:=by first|exactλ_ _ h=>h|exactλ_ _ h=>(af (λe=>nomatch e)).trans h):mj (FV.kill d) G G' S (S.kill d) w:=.afM d (λ_ _ _ _ _ _ h=>hi▸h) (λ_ h=>hi▸h) hmp WM hit WN hl ht
theorem bl.oV {G:bl}{d:Nat}:(∀o b,o≠d->G.mp o=some b->(G.free d).mp o=some b)/\(∀o b,(G.free d).mp o=some b->G.mp o=some b)/\(∀o b,o≠d->G.it o=some b->(G.free d).it o=some b)/\(∀o b,(G.free d).it o=some b->G.it o=some b):=⟨λo b h h'=>by simp only[bl.free];simp_all,λo b h=>by simp only[bl.free]at h;simp_all,λo b h h'=>by simp only[bl.free];simp_all,λo b h=>by simp only[bl.free]at h;simp_all⟩
def lX (S:an)(o:Nat)(t:Nm)(s:Nat):Prop:=t=o/\me S.dh o=none/\∀cells,Qv.getObj S.aK o=some cells->cells.length=s
theorem lX.mono {S S':an}{o:Nat}{t:Nm}{s:Nat}(h:lX S o t s)(hb:∀bs,me S'.dh o=some bs->∃bs,me S.dh o=some bs)(ho:∀cells,Qv.getObj S'.aK o=some cells->∃cs,Qv.getObj S.aK o=some cs/\cells.length=cs.length):lX S' o t s:=by
 obtain⟨h1,h2,h3⟩:=h;refine⟨h1,?_,λcells hc=>?_⟩;cases hq:me S'.dh o with
 |none=>rfl
 |some bs=>simp_all
 grind
theorem lX.kill {S:an}{o:Nat}{t:Nm}{s:Nat}(h:lX S o t s)(d:Nat):lX (S.kill d) o t s:=h.mono (λbs q=>⟨bs,(kW q).2⟩) λcells q=>by obtain⟨-,cs,h1,rfl⟩:=lH q;exact⟨cs,h1,by rw[FV.fT,aj]⟩
theorem bA.afN (hs:bA E G S a w)(d:Nat){G':bl}(hi:G'.br=G.br)(hl:∀o b,o≠d->G.loc o=some b->G'.loc o=some b)(ht:∀(t:Nm) r,t≠d->G.tail t=some r->G'.tail t=some r)(hl':∀o b,G'.loc o=some b->G.loc o=some b)(ht':∀t r,G'.tail t=some r->G.tail t=some r)(hrw:∀o,o≠d->G'.row o=G.row o)(akP:∀o r,G'.row o=some r->G.row o=some r)(hy:∀l k,l≠d->G.yl l=some k->G'.yl l=some k:=by intro _ _ _ h;exact h)(hy':∀l k,G'.yl l=some k->G.yl l=some k:=by intro _ _ h;exact h)(hmp:∀o b,o≠d->G.mp o=some b->G'.mp o=some b:=by intro _ _ _ h;exact h)(WM:∀o b,G'.mp o=some b->G.mp o=some b:=by intro _ _ h;exact h)(hit:∀o b,o≠d->G.it o=some b->G'.it o=some b:=by intro _ _ _ h;exact h)(WN:∀o b,G'.it o=some b->G.it o=some b:=by intro _ _ h;exact h):bA E G' (S.kill d) a w:=by
 refine⟨hs.kept,hs.size,hs.ext'.move (FV.kill d) rfl rfl rfl (λv x h=>h.kill d hi hl (λt r h=>ht t r (Ze h)) hy hmp hit) (.refl _) (.kill d hi hmp WM hit WN hl' λq r h=>ht _ _ (λe=>nomatch e) h) hy',?_,hi▸hs.nS,hi▸hs.fJ,λi hi'=>(hs.tmps i hi').kill d hi hl (λt r h=>ht t r (Ze h)) hy hmp hit,λo cells ho=>?_,λo b ho=>hi▸hs.gW o b (hl' o b ho),λo o' b h h'=>hs.fq o o' b (hl' _ _ h) (hl' _ _ h'),λo t b r h h'=>lX.kill (hs.cL o t b r (hl' _ _ h) (ht' _ _ h')) d,λt b s e T h=>hi▸hs.gv t b s e T (ht' _ _ h),λt t' b r r' h h'=>hs.ew t t' b r r' (ht' _ _ h) (ht' _ _ h')⟩;refine hs.jr.keep rfl rfl (λo bs q=>?_) (λo _ _ q=>oU q) akP (aB _) (λ_ _ _ _ _ _=>rfl) (λ_ _ _=>rfl) (λ_ _ _ _ q=>hi▸q) (λ_ _ _ _ q=>hl' _ _ q) (λ_ _ t q _ e=>⟨t,q,ht' _ _ e⟩);obtain⟨q1,q2⟩:=kW q;obtain⟨-,b,q3,-⟩:=hs.jr.at_ o bs q2;simp_all;obtain⟨h1,cs,h2,rfl⟩:=lH ho;obtain⟨b,h3,h4⟩:=hs.aK o cs h2;refine⟨b,hl o b h1 h3,λi x hx=>?_⟩;rw[FV.fT,aM]at hx;cases hc:cs[i]?with
 |none=>simp_all
 |some y=>simp[hc]at hx;subst hx;obtain⟨c,h5,h6⟩:=h4 i y hc;exact⟨c,h5,h6.kill d hi hl (λt r h=>ht t r (Ze h)) hy hmp hit⟩
theorem bA.kill (hs:bA E G S a w)(d:Nat):bA E (G.free d) (S.kill d) a w:=hs.afN d rfl (λo b h h'=>by simp only[bl.free];simp_all) (λt r h h'=>by simp only[bl.free];simp_all) (λo b h=>by simp only[bl.free]at h;simp_all) (λt r h=>by simp only[bl.free]at h;simp_all) (λo h=>by simp only[bl.free];simp_all) (λo r h=>by simp only[bl.free]at h;simp_all) (hmp:=λo b h h'=>by simp only[bl.free];simp_all) (WM:=λo b h=>by simp only[bl.free]at h;simp_all) (hit:=λo b h h'=>by simp only[bl.free];simp_all) (WN:=λo b h=>by simp only[bl.free]at h;simp_all)
theorem uW (hs:bA E G S a w)(d:Nat)(hdn:iK d=false)(cs:List Value)(xs:List FV)(t:TypeId)(hr:∀(i:Nat)(x:FV),xs[i]?=some x->∃c,cs[i]?=some c/\aU G w c x):∃G',bA E G' {S.kill d with aK:=(d,FV.fu d xs)::eH d S.aK} a (w.alloc (.cells cs.toArray t))/\G'.loc d=some w.heap.size/\G'.row d=none/\G'.tail d=none/\(∀t r,G'.tail t≠some (w.heap.size,r))/\(∀o,o≠d->G'.loc o≠some w.heap.size)/\(∀o,G'.row o≠some w.heap.size)/\(∀i,¬G'.br w.heap.size i):=by
 have hb:Below w.heap.size w (w.alloc (.cells cs.toArray t)):=(Below.refl _ _).alloc (aB _) _;have h1:=(hs.PK hb λ_ _=>False).kill d;have keep:∀v x,aU G w v x->aU (bl.free {G with br:=λb o=>G.br b o\/(w.heap.size<=b/\b<(w.alloc (.cells cs.toArray t)).heap.size/\False)} d) (w.alloc (.cells cs.toArray t)) v (x.kill d):=λv x hv=>by refine aU.kill (G:={G with br:=λb o=>G.br b o\/(w.heap.size<=b/\b<(w.alloc (.cells cs.toArray t)).heap.size/\False)}) d ?_ rfl (λo b h h'=>by simp only[bl.free];simp_all) (λt r h h'=>by simp only[bl.free];simp_all) (hmp:=λo b h h'=>by simp only[bl.free];simp_all) (hit:=λo b h h'=>by simp only[bl.free];simp_all);exact hv.keep (λb o h=>.inl h) (λb o c hi hc=>by rw[World.cell?_alloc_lt _ _ _ (hs.fJ b o hi)];omega) (CW _ _ _) (λ_ _ h=>h) (λ_ _ h=>h)
 have hlt:∀o b,(if o=d then none else G.loc o)=some b->b<w.heap.size:=λo b h=>by split at h;grind;exact(hs.gW o b h).1
 have Vs:∀(t:Nm) b r,(if t=d then none else G.tail t)=some (b,r)->b<w.heap.size:=λt b r h=>by split at h;grind;obtain⟨s,e,T⟩:=r;exact(hs.gv t b s e T h).1
 let G2:bl:={br:=λb o=>G.br b o\/(w.heap.size<=b/\b<(w.alloc (.cells cs.toArray t)).heap.size/\False),loc:=λo=>if o=d then some w.heap.size else G.loc o,tail:=λt=>if t=d then none else G.tail t,yl:=G.yl,row:=λo=>if o=d then none else G.row o,mp:=λo=>if o=d then none else G.mp o,it:=λo=>if o=d then none else G.it o};have up:∀{W:World}{v:Value}{x:FV},aU (bl.free {G with br:=λb o=>G.br b o\/(w.heap.size<=b/\b<(w.alloc (.cells cs.toArray t)).heap.size/\False)} d) W v x->aU G2 W v x:=λh=>h.keep (λ_ _ h=>h) (λ_ _ _ _ h=>h) (.refl _ _) (λo b h=>by simp only[bl.free]at h;grind) (λ_ _ h=>h);have hnew:∀b i,G.br b i\/(w.heap.size<=b/\b<(w.alloc (.cells cs.toArray t)).heap.size/\False)->b≠w.heap.size:=λb i h e=>by rcases h with h|⟨_,_,h⟩;have :=hs.fJ b i h;omega;omega
 have hsz:(w.alloc (.cells cs.toArray t)).heap.size=w.heap.size+1:=World.size_alloc w _;have HY:mj (λx=>x) (bl.free {G with br:=λb o=>G.br b o\/(w.heap.size<=b/\b<(w.alloc (.cells cs.toArray t)).heap.size/\False)} d) G2 (S.kill d) {S.kill d with aK:=(d,FV.fu d xs)::eH d S.aK} (w.alloc (.cells cs.toArray t)):=by refine .more rfl rfl rfl rfl (λb i h=>.inl h) (λb h=>h) λo b h=>?_;simp only[G2]at h;split at h;obtain rfl:=aq h;refine .inr λes k e=>?_;rw[World.alloc_heap_new]at e;grind;rename_i hne;refine .inl ?_;simp only[bl.free];simp_all
 have base:bA E G2 {S.kill d with aK:=(d,FV.fu d xs)::eH d S.aK} a (w.alloc (.cells cs.toArray t)):=by
  refine⟨h1.kept,h1.size,h1.ext'.keep rfl rfl rfl (λv x h=>up h) (.refl _) (HY:=HY),?_,h1.nS,h1.fJ,λi hi=>up (h1.tmps i hi),λo cells ho=>?_,λo b ho=>?_,λo o' b h h'=>?_,λo t b r h h'=>?_,λt b s e T h=>h1.gv t b s e T h,h1.ew⟩;refine h1.jr.keep rfl rfl (λo bs q=>?_) (λo bs q0 q=>?_) (λ_ _ e=>e) (aB _) (λ_ _ _ _ _ _=>rfl) (λ_ _ _=>rfl) (λ_ _ _ _ e=>e) (λo r o' e q=>?_) (λ_ _ t q _ e=>⟨t,q,e⟩);obtain⟨q1,q2⟩:=kW (l:=S.dh) q;refine⟨q,?_,rfl⟩;simp only[G2,bl.free];simp_all;simp only[Qv.getObj];split;rename_i Qe;obtain rfl:=aN Qe;exact absurd rfl (kW (l:=S.dh) q0).1;exact q;simp only[G2]at q;split at q;have :=(h1.jr.row o r e).2.1;have hlt:=(hs.jr.row o r (by simp only[bl.free]at e;simp_all)).2.1;simp_all;rename_i hne;simp only[bl.free];simp_all;simp only[Qv.getObj]at ho;split at ho;rename_i Qe;obtain rfl:=aN Qe;obtain rfl:=aq ho;refine⟨w.heap.size,by grind,λi x hx=>?_⟩;rw[FV.fT,aM]at hx;cases hy:xs[i]?with
  |none=>simp_all
  |some y=>simp[hy]at hx;subst hx;obtain⟨c,hc1,WO⟩:=hr i y hy;simp_all
  rename_i Qe;have hne:o≠d:=λe=>by simp_all
  obtain⟨b,h2,h3⟩:=h1.aK o cells ho;refine⟨b,?_,λi x hx=>let⟨c,h4,h5⟩:=h3 i x hx;⟨c,h4,up h5⟩⟩;simp only[bl.free]at h2;grind;simp only[G2]at ho;split at ho;obtain rfl:=aq ho;refine⟨oO,.inl ⟨hs.kept.size,by simp_all⟩,λi=>⟨λh=>hnew _ _ h rfl,?_⟩⟩;simp_all;rename_i hne;exact h1.gW o b (by simp only[bl.free];simp_all);simp only[G2]at h h';split at h<;>split at h';omega;grind;grind;rename_i h2 h3;exact h1.fq o o' b (by simp only[bl.free];simp_all) (by simp only[bl.free];simp_all);simp only[G2]at h h';split at h;grind;rename_i hne;exact lX.mono (h1.cL o t b r (by simp only[bl.free];simp_all) h') (λbs q=>⟨bs,q⟩) λcells q=>by simp only[Qv.getObj]at q;split at q;simp_all;exact⟨cells,q,rfl⟩
 refine⟨G2,base,by grind,by grind,by grind,λt r h=>?_,λo hne h=>?_,λo h=>?_,λi h=>hnew _ _ h rfl⟩;grind;grind;simp only[G2]at h;split at h;grind;have :=(hs.jr.row o _ h).2.1;omega
theorem Dp (hs:bA E G S a w)(q:Nat)(hdn:iK (S.off+q)=false)(cs:List Value)(xs:List FV)(t:TypeId)(hr:zl G w cs xs):∃G',bA E G' (newObj S q xs) (a.put (some q) (.pointer (some ⟨w.heap.size,0,none⟩))) (w.alloc (.cells cs.toArray t))/\G'.loc (S.off+q)=some w.heap.size/\G'.row (S.off+q)=none/\∀t r,G'.tail t≠some (w.heap.size,r):=by
 obtain⟨G',h1,h2,h3,-,h5,-⟩:=uW hs (S.off+q) hdn cs xs t λi x hx=>by
  have hl:i<cs.length:=by rw[hr.1];exact(aI.1 hx).1
  exact⟨cs[i],ay hl,hr.2 i _ x (ay hl) hx⟩
 exact⟨G',h1.put (some q) (v:=.pointer (some ⟨w.heap.size,0,none⟩)) (x:=.ptr (S.off+q) 0) (.ptr _ 0 _ h2),h2,h3,h5⟩
theorem bA.aio {d b:Nat}{cells:List FV}{rest:List (Nat×List FV)}(hs:bA E G S a w)(ho:S.aK=(d,cells)::eH d rest)(hl:G.loc d=some b)(hr:G.row d=none)(htd:∀t r,G.tail t≠some (b,r))(hw:w.heap[b]?=some (.cells #[.pointer none,.slice none 0 0] E.C.bT (0,0))):bA E G {S with aK:=eH d rest,dh:=(d,[])::S.dh} a w:=by
 have hout:∀o,o≠d->Qv.getObj S.aK o=Qv.getObj (eH d rest) o:=λo hne=>by rw[ho];simp only[Qv.getObj];split;simp_all;rfl
 have hd:Qv.getObj (eH d rest) d=none:=by
  cases h':Qv.getObj (eH d rest) d with
  |none=>rfl
  |some cs=>exact absurd rfl (lH h').1
 refine⟨hs.kept,hs.size,hs.ext'.keep rfl rfl rfl (λ_ _ h=>h) (.refl _),⟨λo bs q=>?_,hs.jr.row,hs.jr.dx⟩,hs.nS,hs.fJ,hs.tmps,λo cs q=>?_,hs.gW,hs.fq,λo t b' r q1 q2=>?_,hs.gv,hs.ew⟩;simp only[me]at q;split at q;rename_i Qe;obtain rfl:=aN Qe;obtain rfl:=aq q;refine⟨hd,b,hl,?_⟩;rw[hr];exact⟨none,.slice none 0 0,.inl rfl,hw,rfl,rfl⟩;rename_i Qe;obtain⟨q1,q2⟩:=hs.jr.at_ o bs q;grind;refine hs.aK o cs ?_;grind;have hne:o≠d:=λe=>by simp_all
 refine lX.mono (hs.cL o t b' r q1 q2) (λbs q=>?_) λcells q=>⟨cells,by simp_all,rfl⟩;simp only[me]at q;split at q;simp_all;simp_all
theorem bA.Vt {o b:Nat}{bs:List UInt8}{row':Option Nat}{Vu:List (Nat×List UInt8)}{w':World}(hs:bA E G S a w)(ho:me S.dh o=some bs)(hl:G.loc o=some b)(hfz:∃p v,w'.heap[b]?=some (.cells #[p,v] E.C.bT (0,0)))(hrow:row'=G.row o\/row'=none\/∃x,row'=some x/\w.heap.size<=x/\x<w'.heap.size)(amn:∀r,row'=some r->∃cs T fr,w'.heap[r]?=some (.cells cs T fr))(hos:w'.os=w.os)(Qf:w'.tape=w.tape)(hout:w'.output=w.output)(hsz:w.heap.size<=w'.heap.size)(hblk:∀k,k<w.heap.size->k≠b->G.row o≠some k->w'.heap[k]?=w.heap[k]?)(hbl:∀q bs',me Vu q=some bs'->(q=o/\yV E.C w' b row' bs')\/(q≠o/\me S.dh q=some bs')):bA E {G with row:=λq=>if q=o then row' else G.row q} {S with dh:=Vu} a w'/\∀v x,aU G w v x->aU {G with row:=λq=>if q=o then row' else G.row q} w' v x:=by
 obtain⟨Qg,b0,hl0,qS⟩:=hs.jr.at_ o bs ho;rw[hl]at hl0;obtain rfl:=aq hl0;obtain⟨l1,l2,l3⟩:=hs.gW o b hl;have CU:∀k i,G.br k i->w'.heap[k]?=w.heap[k]?:=λk i h=>hblk k (hs.fJ k i h) (λe=>(l3 i).1 (e▸h)) (λe=>(hs.jr.row o k e).2.2.1 i h);have fZ:∀q k,q≠o->G.loc q=some k->w'.heap[k]?=w.heap[k]?:=λq k hne h=>hblk k (hs.gW q k h).1 (λe=>hne (hs.fq q o k h (e▸hl))) (λe=>(hs.jr.row o k e).2.2.2.1 q h);have aif:∀t k r,G.tail t=some (k,r)->w'.heap[k]?=w.heap[k]?:=λt k r h=>hblk k (hs.gv t k r.1 r.2.1 r.2.2 h).1 (λe=>by have :=(hs.cL o t b r hl (e▸h)).2.1;simp_all) (λe=>(hs.jr.row o k e).2.2.2.2.1 t r h);have hrows:∀q k,q≠o->G.row q=some k->w'.heap[k]?=w.heap[k]?:=λq k hne h=>hblk k (hs.jr.row q k h).2.1 (λe=>(hs.jr.row q k h).2.2.2.1 o (e▸hl)) (λe=>hne ((hs.jr.row o k e).2.2.2.2.2 q h));have cell:∀k i,w'.heap[k]?=w.heap[k]?->w'.cell? ⟨k,i,none⟩=w.cell? ⟨k,i,none⟩:=λk i h=>by unfold World.cell?;simp_all
 have ant:∀k i,w'.heap[k]?=w.heap[k]?->w'.frozen? ⟨k,i,none⟩=w.frozen? ⟨k,i,none⟩:=λk i h=>by unfold World.frozen?;simp_all
 have keep:∀v x,aU G w v x->aU {G with row:=λq=>if q=o then row' else G.row q} w' v x:=λv x h=>h.keep (λ_ _ h=>h) (λk i c hi hc=>by grind) (λk es n hi hb=>by grind) (λ_ _ h=>h) (λ_ _ h=>h);have others:gy w w':=λk ob hk hc=>by rw[hblk k (bz.1 hk).1 (λe=>?_) (λe=>?_)];omega;subst e;obtain⟨p,v,-,h2,-⟩:=qS;rw[h2]at hk;obtain rfl:=aq hk;simp[Obj.isCells]at hc;obtain⟨p,v,-,-,h3⟩:=qS;rw[e]at h3;obtain⟨-,cap,cur,-,h4,-⟩:=h3;rw[h4]at hk;obtain rfl:=aq hk;simp[Obj.isCells]at hc
 refine⟨⟨⟨hos.trans hs.kept.os,Qf.trans hs.kept.tape,hout.trans hs.kept.output,cg hs.kept.size hsz,λk hk hk'=>?_,λk cs T fr hk q=>?_⟩,hs.size,hs.ext'.keep rfl rfl rfl keep others,⟨λq bs' hq=>?_,λq r hq=>?_,λq r hq=>?_⟩,hs.nS,λk i h=>ef (hs.fJ k i h) hsz,λi hi=>keep _ _ (hs.tmps i hi),λq cs hq=>?_,λq k hq=>?_,hs.fq,λq t k r q1 q2=>?_,λt k s e T h=>?_,hs.ew⟩,keep⟩;rw[hblk k (ef hk hs.kept.size) (λe=>E.Ny l2 hk hk' e) (λe=>by rcases(hs.jr.row o k e).1 with h|h;omega;exact hk' (E.hrows _ h.2))];exact hs.kept.block k hk hk';obtain⟨cs',q1,q2⟩:=hs.kept.shape k cs T fr hk q;by_cases hkb:k=b;subst hkb;obtain⟨p,v,-,q3,-⟩:=qS;grind;have hne:G.row o≠some k:=λe=>by obtain⟨o2,hk⟩:=hk;have hko:=E.CQ _ hk;rcases(hs.jr.row o k e).1 with h|h;have :=(E.hown _ hko.1).2.1;simp only at this;omega;exact hko.2 h.2
 grind;rcases hbl q bs' hq with⟨rfl,h⟩|⟨hne,h⟩;simp_all;obtain⟨h1,k,h2,h3⟩:=hs.jr.at_ q bs' h;refine⟨h1,k,h2,?_⟩;simp only[af hne];exact h3.keep (fZ q k hne h2) (λr e=>hrows q r hne e);simp only at hq;have old:∀q r,G.row q=some r->(q=o\/q≠o)->(E.w0.heap.size<=r\/(q=999999/\r∈E.rows))/\r<w'.heap.size/\(∀i,¬G.br r i)/\(∀o',G.loc o'≠some r)/\(∀t q,G.tail t≠some (r,q)):=λq r h _=>by obtain⟨h1,h2,h3,h4,h5,-⟩:=hs.jr.row q r h;grind
 by_cases hqo:q=o;subst hqo;rw[ag rfl]at hq;rcases hrow with h|h|⟨x,h,hx,hx'⟩;obtain⟨h1,h2,h3,h4,h5⟩:=old q r (h▸hq) (.inl rfl);refine⟨h1,h2,h3,h4,h5,λo' ho'=>?_⟩;simp only at ho';split at ho';omega;exact(hs.jr.row q r (h▸hq)).2.2.2.2.2 o' ho';simp_all;rw[h]at hq;obtain rfl:=aq hq;refine⟨.inl (cg hs.kept.size hx),hx',λi hi=>by grind,λo' e=>by grind,λt q e=>by grind,λo' ho'=>?_⟩;grind;rw[af hqo]at hq;obtain⟨h1,h2,h3,h4,h5⟩:=old q r hq (.inr hqo);refine⟨h1,h2,h3,h4,h5,λo' ho'=>?_⟩;simp only at ho';split at ho';rename_i e;rcases hrow with h|h|⟨x,h,hx,hx'⟩;rw[e];exact((hs.jr.row q r hq).2.2.2.2.2 o (h▸ho'));grind;grind;exact(hs.jr.row q r hq).2.2.2.2.2 o' ho';simp only at hq;split at hq;simp_all;rename_i hne;rw[hrows q r hne hq];exact hs.jr.dx q r hq;obtain⟨k,h1,h2⟩:=hs.aK q cs hq;grind;obtain⟨h1,h2,h3⟩:=hs.gW q k hq;refine⟨ef h1 hsz,h2,λi=>⟨(h3 i).1,?_⟩⟩;by_cases hne:q=o;subst hne;rw[hl]at hq;obtain rfl:=aq hq;obtain⟨p,v,hb⟩:=hfz;simp[World.frozen?,hb];grind;have hq:=hs.cL q t k r q1 q2;refine lX.mono hq (λbs q3=>?_) λcells q3=>⟨cells,q3,rfl⟩;grind;obtain⟨h1,h2,⟨cs,fr,h3,hu⟩,h4⟩:=hs.gv t k s e T h;grind
theorem ZH {ob o:Nat}{c bs:List UInt8}:∀{l:List (Nat×List UInt8)},me (Zh l ob c) o=some bs->(o=ob/\bs=c)\/(o≠ob/\me l o=some bs):=by
 intro l;induction l with
 |nil=>intro h;cases h
 |cons p l ih=>obtain⟨u,i⟩:=p;intro h;simp only[Zh]at h;split at h;rename_i hb;obtain rfl:=aN hb;simp only[me]at h⊢;split at h;simp_all;grind;rename_i hb;simp only[me]at h⊢;grind
theorem iA (b:Nat):∀(vs:List Value)(i:Nat)(w:World)(k:Nat),k≠b->(w.setCells b i vs).heap[k]?=w.heap[k]?|[],_,_,_,_=>rfl|v::r,i,w,k,h=>by rw[World.setCells,iA b r _ _ k h];exact Below.heap_setCell _ _ _ _ h
theorem jQ (b:Nat):∀(vs:List Value)(i:Nat)(w:World),(w.setCells b i vs).heap.size=w.heap.size|[],_,_=>rfl|v::r,i,w=>by rw[World.setCells,jQ b r];simp
theorem Br (b:Nat):∀(vs:List Value)(i:Nat)(w:World),(w.setCells b i vs).os=w.os/\(w.setCells b i vs).tape=w.tape/\(w.setCells b i vs).output=w.output|[],_,_=>⟨rfl,rfl,rfl⟩|v::r,i,w=>by rw[World.setCells];exact Br b r _ _
theorem uv (b:Nat):∀(vs:List Value)(i:Nat)(w:World)(k:Nat)(cs:Array Value)(T:TypeId)(fr:Nat×Nat),w.heap[k]?=some (.cells cs T fr)->∃cs',(w.setCells b i vs).heap[k]?=some (.cells cs' T fr)/\cs'.size=cs.size
 |[],_,_,_,cs,_,_,h=>⟨cs,h,rfl⟩
 |v::r,i,w,k,cs,T,fr,h=>by
  rw[World.setCells];by_cases hk:k=b;subst hk;have :∃cs',(w.setCell ⟨k,i,none⟩ v).heap[k]?=some (.cells cs' T fr)/\cs'.size=cs.size:=by simp only[World.setCell,iY,h];simp
  obtain⟨c1,h1,h2⟩:=this;obtain⟨c2,h3,h4⟩:=uv k r _ _ k c1 T fr h1;exact⟨c2,h3,h4.trans h2⟩;exact uv b r _ _ k cs T fr (by rw[Below.heap_setCell _ _ _ _ hk];omega)
theorem Kept.setCells {own:List Nat}{sg:List (Nat×Nat)}{w0 w:World}(h:Kept own sg w0 w){b:Nat}(hb:w0.heap.size<=b\/b∈own)(i:Nat)(vs:List Value):Kept own sg w0 (w.setCells b i vs):=by obtain⟨h1,h2,h3⟩:=Br b vs i w;refine⟨h1.trans h.os,h2.trans h.tape,h3.trans h.output,by rw[jQ];exact h.size,λk hk hk'=>?_,λk cs T fr hk q=>?_⟩;rw[iA b vs i w k (λe=>by grind)];exact h.block k hk hk';obtain⟨cs',q1,q2⟩:=h.shape k cs T fr hk q;obtain⟨cs2,q3,q4⟩:=uv b vs i w k cs' T fr q1;simp_all
theorem gy.setCells (b:Nat):∀(vs:List Value)(i:Nat)(w:World),gy w (w.setCells b i vs)|[],_,w=>.refl w|v::r,i,w=>by rw[World.setCells];refine gy.trans (λk o hk ho=>?_) (gy.setCells b r _ _);exact(KeepsOthers.setCell w _ v).same k o hk ho
theorem jR {p:Nat×Nat->Prop}(b:Nat):∀(vs:List Value)(i:Nat)(w:World)(k:Nat)(T:TypeId),(∃cs fr,w.heap[k]?=some (.cells cs T fr)/\p fr)->∃cs fr,(w.setCells b i vs).heap[k]?=some (.cells cs T fr)/\p fr|[],_,_,_,_,h=>h|v::r,i,w,k,T,h=>by rw[World.setCells];refine jR b r _ _ k T ?_;obtain⟨cs,fr,h,hp⟩:=h;by_cases hk:k=b;subst hk;refine⟨cs.setIfInBounds i v,fr,?_,hp⟩;simp only[World.setCell,iY,h];simp;exact⟨cs,fr,by rw[Below.heap_setCell _ _ _ _ hk];omega,hp⟩
theorem rC {ob o:Nat}{cs cells:List FV}:∀{l:List (Nat×List FV)},Qv.getObj (setObj l ob cs) o=some cells->(o=ob/\cells=cs)\/(o≠ob/\Qv.getObj l o=some cells):=by
 intro l;induction l with
 |nil=>intro h;cases h
 |cons p l ih=>obtain⟨u,i⟩:=p;intro h;simp only[setObj]at h;split at h;rename_i hb;obtain rfl:=aN hb;simp only[Qv.getObj]at h⊢;split at h;simp_all;grind;rename_i hb;simp only[Qv.getObj]at h⊢;grind
theorem zo (hs:bA E G S a w){ob off b:Nat}{cells zs:List FV}{x:FV}{v:Value}(vQ:Qv.getObj S.aK ob=some cells)(fZ:G.loc ob=some b)(hv:aU G w v x)(h1:jW x.cells=true)(BO:gY cells off x.cells=some zs):bA E G {S with aK:=setObj S.aK ob zs} a (w.setCells b off v.cells.toList)/\(storeCells ⟨b,off,none⟩ v.cells.toList 0).run E.C.P w=.ok () (w.setCells b off v.cells.toList):=by
 obtain⟨Qc,hco⟩:=rA hv h1;obtain⟨g1,g2,g3⟩:=rQ BO;obtain⟨b',hb',hc⟩:=hs.aK ob cells vQ;obtain rfl:b'=b:=by simp_all
 obtain⟨l1,l2,l3⟩:=hs.gW ob b' fZ;have hin:∀j,j<v.cells.toList.length->(w.cell? ⟨b',off+j,none⟩).isSome=true:=λj hj=>by
  rw[Qc.1]at hj;have hne:x.cells≠[]:=λe=>by simp_all
  have :=g2 hne;have hl:off+j<cells.length:=oO
  obtain⟨c,h2,-⟩:=hc (off+j) _ (ay hl);simp_all
 have hrun:=run_storeCells_cells (P:=E.C.P) b' off v.cells.toList 0 w oO (λj _=>(l3 _).2) hco;simp only[qi]at hrun;refine⟨?_,hrun⟩;have hout:∀b2 i,b2≠b'->(w.setCells b' off v.cells.toList).cell? ⟨b2,i,none⟩=w.cell? ⟨b2,i,none⟩:=λb2 i hne=>World.cell?_setCells_out b' _ off w ⟨b2,i,none⟩ (λe=>absurd e hne);have keep:∀u y,aU G w u y->aU G (w.setCells b' off v.cells.toList) u y:=λu y hu=>by refine hu.keep (λ_ _ h=>h) (λb2 i c hi hc=>?_) ((gy.setCells b' _ _ _).qf _) (λ_ _ h=>h) (λ_ _ h=>h);grind
 have hsz:=jQ b' v.cells.toList off w;have hfz:∀x,(w.setCells b' off v.cells.toList).frozen? x=w.frozen? x:=λx=>World.frozen?_setCells b' _ off w x;refine⟨hs.kept.setCells (E.CR l2) _ _,hs.size,hs.ext'.keep rfl rfl rfl keep (.setCells b' _ _ _),?_,hs.nS,λb o h=>by rw[hsz];exact hs.fJ b o h,λi hi=>keep _ _ (hs.tmps i hi),λo cs ho=>?_,λo b ho=>?_,hs.fq,λo t b r q1 q2=>?_,λt b s e T h=>?_,hs.ew⟩;refine hs.jr.keep rfl rfl (λo bs q=>⟨q,rfl,rfl⟩) (λo bs _ q=>?_) (λ_ _ e=>e) oO (λo bs b q q2 e=>iA _ _ _ _ _ (λe2=>?_)) (λo r e=>iA _ _ _ _ _ (λe2=>(hs.jr.row o r e).2.2.2.1 ob (e2▸fZ))) (λ_ _ _ _ e=>e) (λ_ _ _ _ e=>e) (λ_ _ t q _ e=>⟨t,q,e⟩);cases h':Qv.getObj (setObj S.aK ob zs) o with
 |none=>rfl
 |some cs=>rcases rC h' with⟨rfl,-⟩|⟨-,h2⟩;simp_all;simp_all
 have :=hs.fq o ob b e (e2▸fZ);simp_all;rcases rC ho with⟨rfl,rfl⟩|⟨hne,ho⟩;refine⟨b',fZ,λi y hy=>?_⟩;rw[g3 i]at hy;by_cases hi:off<=i/\i<off+x.cells.length;rw[ag hi]at hy;have hj:i-off<v.cells.toList.length:=by rw[Qc.1];omega
 have h2:=World.cell?_setCells_in b' v.cells.toList off w hin (i-off) hj;rw[show off+(i-off)=i from oO]at h2;exact⟨_,h2,keep _ _ (Qc.2 (i-off) _ y (ay hj) hy)⟩;rw[af hi]at hy;obtain⟨c,h2,h3⟩:=hc i y hy;refine⟨c,?_,keep _ _ h3⟩;rw[World.cell?_setCells_out b' _ off w ⟨b',i,none⟩ (λ_ _=>by rw[Qc.1];grind)];omega;obtain⟨b2,h2,h3⟩:=hs.aK o cs ho;have Bf:b2≠b':=λe=>hne (hs.fq o ob b2 h2 (e▸fZ));grind;obtain⟨k1,k2,k3⟩:=hs.gW o b ho;simp_all;refine lX.mono (hs.cL o t b r q1 q2) (λbs q=>⟨bs,q⟩) λcs q=>?_;rcases rC q with⟨rfl,rfl⟩|⟨-,q⟩;simp_all;simp_all;obtain⟨k1,k2,kt,k3⟩:=hs.gv t b s e T h;refine⟨oO,k2,jR _ _ _ _ _ _ kt,λi hi hi'=>?_⟩;obtain⟨⟨c,k4⟩,k5,k6⟩:=k3 i hi hi';refine⟨?_,by simp_all,k6⟩;by_cases Bf:b=b'/\off<=i/\i<off+v.cells.toList.length;obtain⟨rfl,h5,h6⟩:=Bf;have h7:=World.cell?_setCells_in b v.cells.toList off w hin (i-off) oO;simp_all;refine⟨c,?_⟩;rw[World.cell?_setCells_out b' _ off w ⟨b,i,none⟩ (λe1 e2=>by grind)];omega
end
section
variable {E:Env}{G:bl}{S:an}{a:Act}{w:World}{o:Oper}
structure Flat (br:Nat->Nat->Prop)(w:World)(e:Nat)(ys:List (List AV))(news:List Value):Prop where
 len:news.length=ys.length*e
 one:∀u,u∈news->u.oneCell'=true
 at_:∀(i:Nat)(zs:List AV)(j:Nat)(z:AV),ys[i]?=some zs->zs[j]?=some z->∃u,news[i*e+j]?=some u/\dH br w u z/\z.one=true
theorem xq {P:Program}{br:Nat->Nat->Prop}{ys:List (List AV)}{v:Value}{e:Nat}(h:dH br w v (.sl ys))(he:∀zs,zs∈ys->zs.length=e):∃news,Flat br w e ys news/\(Builtin.lenOf v).run P w=.ok ys.length w/\∀w',(∀b o,w'.cell? ⟨b,o,none⟩=w.cell? ⟨b,o,none⟩)->(Builtin.firstCells e ys.length v).run P w'=.ok news.toArray w':=by
 obtain⟨ad,c,rfl,hc,hne⟩:=h.lG;by_cases h0:ys=[];subst h0;refine⟨[],⟨by simp,by simp,by simp⟩,by rfl,λw' _=>?_⟩;cases ad<;>simp[Builtin.firstCells,loadCells,loadCellsFrom];obtain⟨b,off,bP,cell,rfl,g1,g2⟩:=hne h0;have hpos:0<ys.length:=qh.2 h0;obtain rfl:bP=e:=(g1 0 _ (ay hpos)).symm.trans (he _ (aQ hpos));let f:Nat->Value:=λq=>(w.cell? ⟨b,off+q,none⟩).getD undef;have hq:∀q,q<ys.length*bP->∃zs z,ys[q/bP]?=some zs/\zs[q%bP]?=some z/\z.one=true/\w.cell? ⟨b,off+q,none⟩=some (f q)/\dH br w (f q) z:=λq hq=>by
  have hep:0<bP:=by rcases Nat.eq_zero_or_pos bP with h|h;simp_all;omega
  have hi:q/bP<ys.length:=Dq (by grind);have hzs:=ay hi;have hl:=g1 _ _ hzs;have hj:q%bP<(ys[q/bP]).length:=by rw[hl];exact oc _ hep
  obtain⟨k1,k2,k3,k4⟩:=g2 _ _ _ _ hzs (ay hj);have hqe:off+q/bP*bP+q%bP=off+q:=by have :=Nat.div_add_mod q bP;rw[xu]at this;omega
  rw[hqe]at k2;have hf:f q=cell (q/bP) (q%bP):=by simp only[f,k2,xw]
  exact⟨_,_,hzs,ay hj,k1,by simp_all,by simp_all⟩
 refine⟨(List.range (ys.length*bP)).map f,⟨by simp,λu hu=>?_,λi zs j z hi hj=>?_⟩,by rfl,λw' hw=>?_⟩;obtain⟨q,NJ,rfl⟩:=aJ.1 hu;obtain⟨zs,z,-,-,k1,-,k2⟩:=hq q (fO.1 NJ);exact k2.Zy k1;have FQ:=(aI.1 hi).1;have hjl:=(aI.1 hj).1;rw[g1 i zs hi]at hjl;have hlt:i*bP+j<ys.length*bP:=by have :(i+1)*bP<=ys.length*bP:=fG _ FQ;rw[bK]at this;omega
 obtain⟨k1,k2,k3,k4⟩:=g2 _ _ _ _ hi hj;have hf:f (i*bP+j)=cell i j:=by simp only[f,<-fL,k2,xw]
 simp_all;have :=run_loadCells (P:=P) w' ⟨b,off,none⟩ (ys.length*bP) f (λq NJ=>by rw[Addr.add_lit,hw];grind);simpa[Builtin.firstCells]using this
theorem FU {P:Program}{br:Nat->Nat->Prop}{s:List UInt8}{e:Nat}(he:∀zs,zs∈(s.map λ(b:UInt8)=>[AV.int .u8 (b.toNat:Int)])->zs.length=e):∃news,Flat br w e (s.map λ(b:UInt8)=>[AV.int .u8 (b.toNat:Int)]) news/\(Builtin.lenOf (.string ⟨s.toArray⟩)).run P w=.ok (s.map λ(b:UInt8)=>[AV.int .u8 (b.toNat:Int)]).length w/\∀w',(Builtin.firstCells e (s.map λ(b:UInt8)=>[AV.int .u8 (b.toNat:Int)]).length (.string ⟨s.toArray⟩)).run P w'=.ok news.toArray w':=by
 have he1:s≠[]->e=1:=λh=>by
  cases s with
  |nil=>simp_all
  |cons b s=>simp_all
 have hsz:(⟨s.toArray⟩:ByteArray).size=s.length:=by simp[ByteArray.size]
 refine⟨s.map λb=>.int .u8 b.toNat,⟨?_,λu hu=>?_,λi zs j z hi hj=>?_⟩,by simp[Builtin.lenOf,hsz],λw'=>?_⟩;by_cases h0:s=[];grind;simp_all;obtain⟨b,-,rfl⟩:=aJ.1 hu;rfl;rw[aM]at hi;cases hb:s[i]?with
 |none=>simp_all
 |some b=>
  simp[hb]at hi;subst hi;have hne:s≠[]:=λe=>by simp_all
  cases j with
  |succ j=>simp_all
  |zero=>simp at hj;subst hj;refine⟨.int .u8 b.toNat,?_,.int _ _,rfl⟩;simp_all
 have hx:(⟨s.toArray⟩:ByteArray).extract 0 s.length=⟨s.toArray⟩:=by rw[Bq s 0 s.length (aB _)];simp
 simp[Builtin.firstCells,hx]
section
variable {P:Program}
theorem mZ {t u elem ty:TypeId}{d:TypeDesc}{n c:Nat}{base:Option Addr}{yv:Value}{i:jV}(ht:P.underlying t=some (.slice elem))(hu:P.underlying u=some d)(hd:∀k,d≠.int k)(hi:gj P elem i)(hl:(Builtin.lenOf yv).run P w=.ok 0 w)(hf:(Builtin.firstCells i.size 0 yv).run P w=.ok #[] w)(hc:n<=c):(Builtin.append_ #[t,u] ty #[.slice base n c,yv]).run P w=.ok (.slice base n c) w:=by
 have hd':(match d with|.int _=>true|_=>false)=false:=by cases d<;>first|rfl|grind
 cases base<;>simp[Builtin.append_,run_underlying ht,run_underlying hu,hi.sizeOf,hd',hl,hf,hc,storeCells]
theorem od {t u elem ty:TypeId}{d:TypeDesc}{n c m b off:Nat}{yv:Value}{i:jV}{news:List Value}(ht:P.underlying t=some (.slice elem))(hu:P.underlying u=some d)(hd:∀k,d≠.int k)(hi:gj P elem i)(hl:(Builtin.lenOf yv).run P w=.ok m w)(hf:(Builtin.firstCells i.size m yv).run P w=.ok news.toArray w)(hc:n+m<=c)(hcell:∀j,j<news.length->(w.cell? ⟨b,off+n*i.size+j,none⟩).isSome=true)(hfz:∀j,j<news.length->w.frozen? ⟨b,off+n*i.size+j,none⟩=false)(h1:∀u,u∈news->u.oneCell'=true):(Builtin.append_ #[t,u] ty #[.slice (some ⟨b,off,none⟩) n c,yv]).run P w=.ok (.slice (some ⟨b,off,none⟩) (n+m) c) (w.setCells b (off+n*i.size) news):=by
 have hd':(match d with|.int _=>true|_=>false)=false:=by cases d<;>first|rfl|grind
 have hst:=run_storeCells_cells (P:=P) b (off+n*i.size) news 0 w oO oO h1;simp only[qi]at hst;simp[Builtin.append_,run_underlying ht,run_underlying hu,hi.sizeOf,hd',hl,hf,hc,Addr.add_lit,hst]
theorem iZ {t u elem ty:TypeId}{d:TypeDesc}{n c m:Nat}{base:Option Addr}{yv:Value}{i:jV}{olds news:List Value}(ht:P.underlying t=some (.slice elem))(hu:P.underlying u=some d)(hd:∀k,d≠.int k)(hi:gj P elem i)(hl:(Builtin.lenOf yv).run P w=.ok m w)(hf:∀w',(∀b o,w'.cell? ⟨b,o,none⟩=w.cell? ⟨b,o,none⟩)->(Builtin.firstCells i.size m yv).run P w'=.ok news.toArray w')(ho:∀w',(∀b o,w'.cell? ⟨b,o,none⟩=w.cell? ⟨b,o,none⟩)->(Builtin.firstCells i.size n (.slice base n c)).run P w'=.ok olds.toArray w')(hc:¬n+m<=c)(hb:(n+m)*i.bytes<=2^47)(hb0:i.bytes≠0):∃rest z,z.size=i.size/\rest=Builtin.zeroCells z (grownCap w (n+m) c elem-(n+m))/\(Builtin.append_ #[t,u] ty #[.slice base n c,yv]).run P w=.ok (.slice (some ⟨w.heap.size,0,none⟩) (n+m) (grownCap w (n+m) c elem)) (w.drew.alloc (.cells (olds.toArray++news.toArray++rest) elem)):=by
 have hd':(match d with|.int _=>true|_=>false)=false:=by cases d<;>first|rfl|grind
 obtain⟨inf,z,Dk,hsz,hby,hz,GQ⟩:=hi.info';refine⟨_,z.cells,by rw[<-jH,GQ,hi.len],rfl,?_⟩;have hfit:=growslice_fits (need:=n+m) (old:=c) (bytes:=i.bytes) oO oO;have Vv:n+m<=2^47:=cg (Nat.le_mul_of_pos_right _ (xx hb0)) hb;have anv:¬(((n+m:Nat):Int)>IntKind.i64.max):=by simp only[IntKind.max,IntKind.signed,IntKind.bits,if_true];omega
 have h48:¬Builtin.nextslicecap (n+m) c*i.bytes>2^48:=oO
 have hfw:=hf w.drew (λ_ _=>rfl);have how:=ho w.drew (λ_ _=>rfl);have Vq:∀w',(typeInfo elem).run P w'=.ok inf w':=λw'=>run_typeInfo w' Dk;have hzv:∀w',(zeroValue elem).run P w'=.ok z w':=λw'=>by simp[zeroValue,Vq w',hz]
 have hso:∀w',(Go.sizeOf elem).run P w'=.ok i.size w':=λw'=>hi.sizeOf w';have akR:¬(281474976710656<Builtin.nextslicecap (n+m) c*i.bytes):=oO
 simp[Builtin.append_,run_underlying ht,run_underlying hu,hso,hd',hl,hc,Vq,hby,hb0,akR,Question.forced,how,hfw,hzv,newRow,grownCap];grind
end
theorem aU.items {y:FV}{v:Value}{ys:List (List AV)}{P:Program}{e:Nat}(hy:y.items=some ys)(h:aU G w v y)(he:∀zs,zs∈ys->zs.length=e):∃news,Flat G.br w e ys news/\(Builtin.lenOf v).run P w=.ok ys.length w/\∀w',(∀b o,w'.cell? ⟨b,o,none⟩=w.cell? ⟨b,o,none⟩)->(Builtin.firstCells e ys.length v).run P w'=.ok news.toArray w':=by
 cases y with
 |p x=>
  cases x with
  |str s=>
   have hys:(s.map λ(b:UInt8)=>[AV.int .u8 (b.toNat:Int)])=ys:=by simpa[FV.items]using hy
   subst hys;obtain rfl:=h.kq;obtain⟨news,h1,h2,h3⟩:=FU (P:=P) (w:=w) (br:=G.br) he;grind
  |_=>exact xq (h.elems (by simpa[FV.items]using hy)) he
 |_=>exact xq (h.elems (by simpa[FV.items]using hy)) he
theorem bA.zq (hs:bA E G S a w){t:Nm}{B s e:Nat}{T:TypeId}(h0:G.tail t=none)(h1:B<w.heap.size)(h2:E.w0.heap.size<=B)(hty:∃cs fr,w.heap[B]?=some (.cells cs T fr)/\adw t fr)(h3:∀o,G.loc o=some B->lX S o t s)(h4:∀t' r,G.tail t'≠some (B,r))(h6:∀o,G.row o≠some B)(h5:∀i,s<=i->i<e->(∃c,w.cell? ⟨B,i,none⟩=some c)/\w.frozen? ⟨B,i,none⟩=false/\¬G.br B i):bA E {G with tail:=λt'=>if t'=t then some (B,s,e,T)else G.tail t'} S a w:=by
 have up:∀v x,aU G w v x->aU {G with tail:=λt'=>if t'=t then some (B,s,e,T)else G.tail t'} w v x:=λv x h=>h.keep (λ_ _ h=>h) (λ_ _ _ _ h=>h) (.refl _ _) (λ_ _ h=>h) (λt' r h=>by grind);have HY:mj (λx=>x) G {G with tail:=λt'=>if t'=t then some (B,s,e,T)else G.tail t'} S S w:=mj.same rfl rfl rfl rfl rfl rfl λq r h=>by grind
 refine⟨hs.kept,hs.size,hs.ext'.keep rfl rfl rfl up (.refl _) (HY:=HY),hs.jr.keep rfl rfl (λo bs q=>⟨q,rfl,rfl⟩) (λ_ _ _ q=>q) (λ_ _ e=>e) (aB _) (λ_ _ _ _ _ _=>rfl) (λ_ _ _=>rfl) (λ_ _ _ _ e=>e) (λ_ _ _ _ e=>e) (λo r t' q e e'=>?_),hs.nS,hs.fJ,λi hi=>up _ _ (hs.tmps i hi),λo cells ho=>?_,hs.gW,hs.fq,λo t' b r h h'=>?_,λt' b s' e' T' h=>?_,λt1 t2 b r1 r2 h h'=>?_⟩;grind;obtain⟨b,k1,k2⟩:=hs.aK o cells ho;grind;simp only at h';split at h';rename_i ht;have :=aq h';injection this with q1 q2;subst q1;subst q2;subst ht;exact h3 o h;exact hs.cL o t' b r h h';simp only at h;split at h;simp_all;exact hs.gv t' b s' e' T' h;simp only at h h';split at h<;>split at h';simp_all;simp_all;simp_all;exact hs.ew t1 t2 b r1 r2 h h'
theorem bA.AH (hs:bA E G S a w){t:Nm}{B s e:Nat}{T:TypeId}(h0:G.tail t=none)(h1:B<w.heap.size)(h2:E.w0.heap.size<=B)(hty:∃cs fr,w.heap[B]?=some (.cells cs T fr)/\adw t fr)(h3:∀o,G.loc o≠some B)(h4:∀t' r,G.tail t'≠some (B,r))(h6:∀o,G.row o≠some B)(h5:∀i,s<=i->i<e->(∃c,w.cell? ⟨B,i,none⟩=some c)/\w.frozen? ⟨B,i,none⟩=false/\¬G.br B i):bA E {G with tail:=λt'=>if t'=t then some (B,s,e,T)else G.tail t'} S a w:=hs.zq h0 h1 h2 hty (λo h=>(h3 o h).elim) h4 h6 h5
theorem bA.ZI (hs:bA E G S a w){k b s0 e0:Nat}{T:TypeId}{news:List Value}(ht:G.tail k=some (b,s0,e0,T))(hn:s0+news.length<=e0):bA E {(G.free k)with br:=λb' o=>G.br b' o\/(b'=b/\s0<=o/\o<s0+news.length)} (S.kill k) a (w.setCells b s0 news)/\(∀v x,aU G w v x->aU {(G.free k)with br:=λb' o=>G.br b' o\/(b'=b/\s0<=o/\o<s0+news.length)} (w.setCells b s0 news) v (x.kill k))/\(∀b' i c,G.br b' i->w.cell? ⟨b',i,none⟩=some c->(w.setCells b s0 news).cell? ⟨b',i,none⟩=some c):=by
 obtain⟨t1,t2,⟨tcs,tfr,tty,ttu⟩,t3⟩:=hs.gv k b s0 e0 T ht;have hcell:∀b' i c,G.br b' i->w.cell? ⟨b',i,none⟩=some c->(w.setCells b s0 news).cell? ⟨b',i,none⟩=some c:=λb' i c hi hc=>by rw[World.cell?_setCells_out b news s0 w ⟨b',i,none⟩ (λe _=>by grind)];omega
 have hout:∀b2 i,b2≠b->(w.setCells b s0 news).cell? ⟨b2,i,none⟩=w.cell? ⟨b2,i,none⟩:=λb2 i hne=>World.cell?_setCells_out b _ s0 w ⟨b2,i,none⟩ (λe=>absurd e hne);have hfz:∀x,(w.setCells b s0 news).frozen? x=w.frozen? x:=λx=>World.frozen?_setCells b _ s0 w x;have hsz:=jQ b news s0 w;have up:∀v x,aU G w v x->aU {(G.free k)with br:=λb' o=>G.br b' o\/(b'=b/\s0<=o/\o<s0+news.length)} (w.setCells b s0 news) v (x.kill k):=λv x hv=>by refine aU.kill (G:={G with br:=λb' o=>G.br b' o\/(b'=b/\s0<=o/\o<s0+news.length)}) k ?_ rfl (λo b h h'=>by simp only[bl.free];simp_all) (λt r h h'=>by simp only[bl.free];simp_all) (hmp:=bl.oV.1) (hit:=bl.oV.2.2.1);exact hv.keep (λ_ _ h=>.inl h) hcell ((gy.setCells b _ _ _).qf _) (λ_ _ h=>h) (λ_ _ h=>h)
 have vY:∀o b',(G.free k).loc o=some b'->o≠k/\G.loc o=some b':=λo b' h=>by simp only[bl.free]at h;simp_all
 have Qh:∀t r,(G.free k).tail t=some r->t≠k/\G.tail t=some r:=λt r h=>by simp only[bl.free]at h;simp_all
 have HY:mj (FV.kill k) G {(G.free k)with br:=λb' o=>G.br b' o\/(b'=b/\s0<=o/\o<s0+news.length)} S (S.kill k) w:=.afM k (λb' i es n hb _ h=>h.elim id λh=>by simp_all) (λ_ h=>.inl h) bl.oV.1 bl.oV.2.1 bl.oV.2.2.1 bl.oV.2.2.2 (λo b h=>(vY o b h).2);refine⟨⟨hs.kept.setCells (.inl t2) _ _,hs.size,hs.ext'.move (S':=S.kill k) (FV.kill k) rfl rfl rfl up (.setCells _ _ _ _) HY,?_,?_,?_,λi hi=>up _ _ (hs.tmps i hi),λo cells ho=>?_,λo b' ho=>?_,λo o' b' h h'=>hs.fq o o' b' (vY _ _ h).2 (vY _ _ h').2,λo t b' r h h'=>lX.kill (hs.cL o t b' r (vY _ _ h).2 (Qh _ _ h').2) k,λt b' s e T' h=>?_,λt t' b' r r' h h'=>hs.ew t t' b' r r' (Qh _ _ h).2 (Qh _ _ h').2⟩,up,hcell⟩;refine hs.jr.keep rfl rfl (λo bs q=>?_) (λo _ _ q=>oU q) (λo r e=>?_) oO (λo bs b2 q q2 e=>iA _ _ _ _ _ (λe2=>by have :=(hs.cL o k b _ (e2▸e) ht).2.1;simp_all)) (λo r e=>iA _ _ _ _ _ (λe2=>(hs.jr.row o r e).2.2.2.2.1 k _ (e2▸ht))) (λo r i e hi=>?_) (λ_ _ o' _ e=>(vY o' _ e).2) (λ_ _ t q _ e=>⟨t,q,(Qh t _ e).2⟩);obtain⟨q1,q2⟩:=kW q;refine⟨q2,?_,?_⟩;simp only[bl.free];simp_all;simp only[bl.free];simp_all;simp only[bl.free]at e;simp_all;rcases hi with hi|⟨rfl,-,-⟩;omega;exact absurd ht ((hs.jr.row o _ e).2.2.2.2.1 k _);rintro b' o (hi|⟨rfl,-,-⟩);exact hs.nS b' o hi;omega;rintro b' o (hi|⟨rfl,-,-⟩);rw[hsz];exact hs.fJ b' o hi;omega;obtain⟨hne,cs,h2,rfl⟩:=lH ho;obtain⟨b',h3,h4⟩:=hs.aK o cs h2;refine⟨b',by simp only[bl.free];simp_all,λi x hx=>?_⟩;rw[FV.fT,aM]at hx;cases hc:cs[i]?with
 |none=>simp_all
 |some y=>simp[hc]at hx;subst hx;obtain⟨c,h5,h6⟩:=h4 i y hc;have hb:b'≠b:=λe=>hne (wO (hs.cL o k b _ (e▸h3) ht).1.symm);simp_all
 obtain⟨hne,ho⟩:=vY o b' ho;obtain⟨k1,k2,k3⟩:=hs.gW o b' ho;have hb:b'≠b:=λe=>hne (wO (hs.cL o k b _ (e▸ho) ht).1.symm);simp_all;obtain⟨hne,h⟩:=Qh t _ h;obtain⟨k1,k2,kt,k3⟩:=hs.gv t b' s e T' h;have hb:b'≠b:=λe'=>hne (hs.ew t k b _ _ (e'▸h) ht);refine⟨oO,k2,jR _ _ _ _ _ _ kt,λi hi hi'=>?_⟩;simp_all
theorem vZ (G:bl)(k:Nat):(G.free k).tail k=none:=by simp[bl.free]
theorem zu {br:Nat->Nat->Prop}{W:World}{b off e c:Nat}{xs:List (List AV)}(hc:xs.length<=c)(hl:∀zs,zs∈xs->zs.length=e)(h:∀(i:Nat)(zs:List AV)(j:Nat)(z:AV),xs[i]?=some zs->zs[j]?=some z->∃u,z.one=true/\W.cell? ⟨b,off+(i*e+j),none⟩=some u/\br b (off+(i*e+j))/\dH br W u z):dH br W (.slice (some ⟨b,off,none⟩) xs.length c) (.sl xs):=dH.PR hc (λi ys hys=>hl _ (bW hys)) λi ys j y h1 h2=>by grind
theorem Qi (hs:bA E G S a w){k:Nat}{xs ys:List (List AV)}{ad:Option Addr}{c:Nat}{yv:Value}{t u elem ty:TypeId}{dd:TypeDesc}{i:jV}{news:List Value}(ht:E.C.P.underlying t=some (.slice elem))(hu:E.C.P.underlying u=some dd)(hd:∀k,dd≠.int k)(hi:gj E.C.P elem i)(hx:dH G.br w (.slice ad xs.length c) (.sl xs))(KC:∀zs,zs∈xs->zs.length=i.size)(zv:∀zs,zs∈ys->zs.length=i.size)(hle:xs.length<=c)(hroom:(xs=[]/\c=0)\/(ys≠[]/\c=xs.length)\/∃b off,ad=some ⟨b,off,none⟩/\G.tail k=some (b,off+xs.length*i.size,off+c*i.size,elem))(hn:Flat G.br w i.size ys news)(hl:(Builtin.lenOf yv).run E.C.P w=.ok ys.length w)(hf:∀w',(∀b o,w'.cell? ⟨b,o,none⟩=w.cell? ⟨b,o,none⟩)->(Builtin.firstCells i.size ys.length yv).run E.C.P w'=.ok news.toArray w')(hb:(xs.length+ys.length)*i.bytes<=2^47)(hb0:i.bytes≠0):∃v' w' G',(Builtin.append_ #[t,u] ty #[.slice ad xs.length c,yv]).run E.C.P w=.ok v' w'/\bA E G' (S.kill k) a w'/\aU G' w' v' (.gd k elem i.size (xs++ys)):=by
 by_cases h0:ys=[];subst h0;have hnews:news=[]:=ck.1 (by rw[hn.len];simp);subst hnews;refine⟨_,w,G,mZ ht hu hd hi hl (hf w λ_ _=>rfl) hle,hs.afN k rfl (λ_ _ _ h=>h) (λ_ _ _ h=>h) (λ_ _ h=>h) (λ_ _ h=>h) (λ_ _=>rfl) (λ_ _ h=>h),?_⟩;have :=aU.gd (G:=G) (w:=w) k elem i.size xs ad c hx (hroom.imp id λh=>by simp_all);simp_all;have hm:0<ys.length:=qh.2 h0;by_cases hc:xs.length+ys.length<=c;rcases hroom with hroom|hroom|⟨b,off,rfl,Vs⟩;omega;omega;obtain⟨t1,t2,tt,t3⟩:=hs.gv _ _ _ _ _ Vs;have hq:off+xs.length*i.size+news.length<=off+c*i.size:=by have :=fG i.size hc;rw[bK]at this;rw[hn.len];omega
 have hrun:=od (P:=E.C.P) (w:=w) (ty:=ty) (b:=b) (off:=off) ht hu hd hi hl (hf w λ_ _=>rfl) hc (λj hj=>by obtain⟨⟨u,hu⟩,-,-⟩:=t3 (off+xs.length*i.size+j) oO oO;simp_all) (λj hj=>(t3 (off+xs.length*i.size+j) oO oO).2.1) hn.one;obtain⟨f1,f2,f3⟩:=hs.ZI (news:=news) Vs hq;have hg:=f1.AH (t:=k) (B:=b) (s:=off+xs.length*i.size+news.length) (e:=off+c*i.size) (T:=elem) (vZ G k) (by rw[jQ];omega) t2 (jR _ _ _ _ _ _ tt) (λo h=>by simp only[bl.free]at h;split at h;cases h;rename_i hne;exact hne (wO (hs.cL o k b _ h Vs).1.symm)) (λt' r h=>by simp only[bl.free]at h;split at h;grind;rename_i hne;exact hne (hs.ew t' k b _ _ h Vs)) (λo h=>by simp only[bl.free]at h;split at h;cases h;exact(hs.jr.row o b h).2.2.2.2.1 k _ Vs) (λj hj hj'=>by obtain⟨⟨u,hu⟩,g2,g3⟩:=t3 j oO oO;refine⟨⟨u,?_⟩,by rw[World.frozen?_setCells];omega,?_⟩;rw[World.cell?_setCells_out b news _ w ⟨b,j,none⟩ (λ_ _=>by simp_all)];omega;simp_all);refine⟨_,_,_,hrun,hg,?_⟩;have hlen:(xs++ys).length=xs.length+ys.length:=aA;suffices h:aU _ (w.setCells b (off+xs.length*i.size) news) (.slice (some ⟨b,off,none⟩) (xs++ys).length c) (.gd k elem i.size (xs++ys))by rw[hlen]at h;exact h
 refine .gd k elem i.size (xs++ys) _ c ?_ (.inr ⟨b,off,rfl,λzs hz=>(bk.1 hz).elim (KC zs) (zv zs),?_⟩);refine zu oO (λzs hz=>(bk.1 hz).elim (KC zs) (zv zs)) λp zs j z hp hj=>?_;have hjl:j<i.size:=by have h1:=(aI.1 hj).1;have h2:zs∈xs++ys:=bW hp;rw[(bk.1 h2).elim (KC zs) (zv zs)]at h1;exact h1
 rw[xy]at hp;by_cases EC:p<xs.length;rw[ag EC]at hp;obtain⟨_,_,hv,-,hne⟩:=hx.lG;obtain⟨b2,off2,bP,cell,rfl,g1,g2⟩:=hne (λe=>by simp_all);injection hv with e1 e2 e3;have e1:=aq e1;injection e1 with q1 q2;subst q1;subst q2;obtain rfl:bP=i.size:=(g1 p _ hp).symm.trans (KC _ (bW hp));obtain⟨k1,k2,k3,k4⟩:=g2 _ _ _ _ hp hj;rw[fL]at k2 k3;exact⟨_,k1,f3 _ _ _ k3 k2,.inl k3,k4.keep (λ_ _ h=>.inl h) f3 ((gy.setCells b _ _ _).qf _)⟩;rw[af EC]at hp;obtain⟨u,k1,k2,k3⟩:=hn.at_ _ _ _ _ hp hj;have YT:(p-xs.length)*i.size+j<news.length:=(aI.1 k1).1;have ZJ:off+(p*i.size+j)=off+xs.length*i.size+((p-xs.length)*i.size+j):=by
  have :p=xs.length+(p-xs.length):=oO
  have h2:p*i.size=xs.length*i.size+(p-xs.length)*i.size:=by rw[<-bK,<-this]
  omega
 have hin:=World.cell?_setCells_in b news (off+xs.length*i.size) w (λq NJ=>by obtain⟨⟨u,hu⟩,-,-⟩:=t3 (off+xs.length*i.size+q) oO oO;simp_all) _ YT;refine⟨u,k3,?_,.inr ⟨rfl,oO,oO⟩,k2.keep (λ_ _ h=>.inl h) f3 ((gy.setCells b _ _ _).qf _)⟩;simp_all;simp only[if_true];rw[hn.len,hlen,bK,fL];obtain⟨olds,LC,-,ZK⟩:=xq (P:=E.C.P) hx KC;obtain⟨rest,z,hz,qX,hrun⟩:=iZ (P:=E.C.P) (w:=w) (ty:=ty) (base:=ad) (news:=news) (olds:=olds) ht hu hd hi hl hf ZK hc hb hb0;have hcap:xs.length+ys.length<=grownCap w (xs.length+ys.length) c elem:=grownCap_ge w _ _ _;generalize hcg:grownCap w (xs.length+ys.length) c elem=cap at*;generalize hW:w.drew.alloc (.cells (olds.toArray++news.toArray++rest) elem)=W at*;have GR:Below w.drew.heap.size w.drew W:=by rw[<-hW];exact(Below.refl _ _).alloc (aB _) _
 have hWs:W.heap.size=w.heap.size+1:=by rw[<-hW];simp
 have hrl:rest.size=(cap-(xs.length+ys.length))*i.size:=by rw[qX,size_zeroCells,hz]
 have hcell:∀q,W.cell? ⟨w.heap.size,q,none⟩=(olds.toArray++news.toArray++rest)[q]?:=λq=>by rw[<-hW];exact World.cell?_alloc_new w.drew _ elem q
 have hfz:∀q,W.frozen? ⟨w.heap.size,q,none⟩=false:=λq=>by rw[<-hW];exact World.frozen?_alloc_new w.drew _ elem q
 have hold:∀b q,b<w.heap.size->W.cell? ⟨b,q,none⟩=w.cell? ⟨b,q,none⟩:=λb q hlt=>by rw[<-hW];exact World.cell?_alloc_lt w.drew _ ⟨b,q,none⟩ hlt
 have h1:=(hs.drew.PK (w':=W) GR (λb q=>b=w.heap.size/\q<(xs.length+ys.length)*i.size)).kill k;have hg:=h1.AH (t:=k) (B:=w.heap.size) (s:=(xs.length+ys.length)*i.size) (e:=cap*i.size) (T:=elem) (vZ _ k) oO hs.kept.size (by rw[<-hW];exact⟨_,_,World.alloc_heap_new w.drew _,trivial⟩) (λo h=>by simp only[bl.free]at h;split at h;grind;have :=(hs.gW o _ h).1;omega) (λt' r h=>by simp only[bl.free]at h;split at h;grind;have :=(hs.gv t' _ r.1 r.2.1 r.2.2 h).1;omega) (λo h=>by simp only[bl.free]at h;split at h;grind;have :=(hs.jr.row o _ h).2.1;omega) (λq hq NJ=>by
  refine⟨?_,hfz q,?_⟩;rw[hcell q];have :q<(olds.toArray++news.toArray++rest).size:=by simp only[Array.size_append,List.size_toArray,LC.len,hn.len,hrl,<-bK];rw[show xs.length+ys.length+(cap-(xs.length+ys.length))=cap from oO];exact NJ
  simp_all;rintro(h|⟨-,-,-,h⟩);have :=hs.fJ _ _ h;omega;omega);refine⟨_,W,_,hrun,hg,?_⟩;have hlen:(xs++ys).length=xs.length+ys.length:=aA;suffices h:aU _ W (.slice (some ⟨w.heap.size,0,none⟩) (xs++ys).length cap) (.gd k elem i.size (xs++ys))by rw[hlen]at h;exact h
 have hkeep:∀{u:Value}{z:AV},dH G.br w u z->dH (λb o=>G.br b o\/(w.drew.heap.size<=b/\b<W.heap.size/\b=w.heap.size/\o<(xs.length+ys.length)*i.size)) W u z:=λh=>h.keep (λ_ _ h=>.inl h) (λb o c hi hc=>by rw[hold b o (hs.fJ b o hi)];omega) (λb es n hi hb=>(GR.block b (hs.fJ b 0 hi)).trans hb);refine .gd k elem i.size (xs++ys) _ cap ?_ (.inr ⟨w.heap.size,0,rfl,λzs hz=>(bk.1 hz).elim (KC zs) (zv zs),?_⟩);refine zu oO (λzs hz=>(bk.1 hz).elim (KC zs) (zv zs)) λp zs j z hp hj=>?_;have hjl:j<i.size:=by have h1:=(aI.1 hj).1;have h2:zs∈xs++ys:=bW hp;rw[(bk.1 h2).elim (KC zs) (zv zs)]at h1;exact h1
 have EC:p<xs.length+ys.length:=by rw[<-hlen];exact(aI.1 hp).1
 have agx:p*i.size+j<(xs.length+ys.length)*i.size:=by have :(p+1)*i.size<=(xs.length+ys.length)*i.size:=fG _ EC;rw[bK]at this;omega
 rw[dF];have CU:(λb o=>G.br b o\/(w.drew.heap.size<=b/\b<W.heap.size/\b=w.heap.size/\o<(xs.length+ys.length)*i.size)) w.heap.size (p*i.size+j):=.inr ⟨aB _,oO,rfl,agx⟩;rw[xy]at hp;by_cases ZL:p<xs.length;rw[ag ZL]at hp;obtain⟨u,k1,k2,k3⟩:=LC.at_ _ _ _ _ hp hj;have YT:=(aI.1 k1).1;refine⟨u,k3,?_,CU,hkeep k2⟩;grind;rw[af ZL]at hp;obtain⟨u,k1,k2,k3⟩:=hn.at_ _ _ _ _ hp hj;have YT:=(aI.1 k1).1;have ZJ:p*i.size+j=olds.length+((p-xs.length)*i.size+j):=by
  have :p=xs.length+(p-xs.length):=oO
  have h2:p*i.size=xs.length*i.size+(p-xs.length)*i.size:=by rw[<-bK,<-this]
  rw[LC.len];omega
 refine⟨u,k3,?_,CU,hkeep k2⟩;rw[hcell,tn (by simp_all),NK (by simp_all),ZJ];simp[k1];simp_all
theorem bA.agy (h1:bA E G S a w){d b:Nat}(hdn:iK d=false){cells:List FV}(hl:G.loc d=none)(hb0:me S.dh d=none)(hno:∀o,G.loc o≠some b)(Vs:∀t r,G.tail t≠some (b,r))(hrow:∀o,G.row o≠some b)(hmap:∀es k,w.heap[b]?≠some (.map es k))(hlt:b<w.heap.size)(hw0:E.w0.heap.size<=b)(him:∀i,¬G.br b i/\w.frozen? ⟨b,i,none⟩=false)(hc:∀(i:Nat)(x:FV),cells[i]?=some x->∃c,w.cell? ⟨b,i,none⟩=some c/\aU G w c x):bA E {G with loc:=λo=>if o=d then some b else G.loc o} {S with aK:=(d,cells)::S.aK} a w:=by have up:∀v x,aU G w v x->aU {G with loc:=λo=>if o=d then some b else G.loc o} w v x:=λv x h=>h.keep (λ_ _ h=>h) (λ_ _ _ _ h=>h) (.refl _ _) (λo b' h=>by grind) (λ_ _ h=>h);refine⟨h1.kept,h1.size,h1.ext'.keep rfl rfl rfl up (.refl _) (HY:=.more rfl rfl rfl rfl (λ_ _ h=>.inl h) (λ_ h=>h) λo b' h=>?_),?_,h1.nS,h1.fJ,λi hi=>up _ _ (h1.tmps i hi),λo cs ho=>?_,λo b' ho=>?_,λo o' b' h h'=>?_,λo t b' r h h'=>?_,h1.gv,h1.ew⟩;grind;refine h1.jr.keep rfl rfl (λo bs q=>⟨q,?_,rfl⟩) (λo bs q0 q=>?_) (λ_ _ e=>e) (aB _) (λ_ _ _ _ _ _=>rfl) (λ_ _ _=>rfl) (λ_ _ _ _ e=>e) (λo r o' e q=>?_) (λ_ _ t q _ e=>⟨t,q,e⟩);grind;simp only[Qv.getObj];split;simp_all;omega;grind;simp only[Qv.getObj]at ho;split at ho;rename_i Qe;obtain rfl:=aN Qe;grind;rename_i Qe;have hne:o≠d:=eY (bH Qe);obtain⟨b',h2,h3⟩:=h1.aK o cs ho;grind;simp only at ho;split at ho;rename_i e;obtain rfl:=aq ho;exact⟨hlt,.inl ⟨hw0,by simp_all⟩,him⟩;exact h1.gW o b' ho;simp only at h h';split at h<;>split at h';omega;simp_all;simp_all;exact h1.fq o o' b' h h';simp only at h h';split at h;simp_all;rename_i hne;refine lX.mono (h1.cL o t b' r h h') (λbs q=>⟨bs,q⟩) λcs q=>?_;simp only[Qv.getObj]at q;split at q;simp_all;simp_all
theorem jf:∀l:List AV,(aH l).length=l.length|[]=>rfl|_::l=>by simp[aH,jf l]
theorem we:∀(l:List AV)(i:Nat),(aH l)[i]?=(l[i]?).map FV.p
 |[],i=>by rfl
 |x::l,0=>rfl
 |x::l,i+1=>by simpa[aH]using we l i
theorem ic {α:Type}{e:Nat}:∀{l:List (List α)},(∀zs,zs∈l->zs.length=e)->l.flatten.length=l.length*e
 |[],_=>by simp
 |x::l,h=>by rw[nU,aA,h x (by simp),ic (λzs hz=>h zs (by grind)),aW,bK];omega
theorem lI (d:Nat)(l:List (Nat×List UInt8)):me (CI d l) d=none:=by
 cases h:me (CI d l) d with
 |none=>rfl
 |some bs=>exact absurd rfl (kW h).1
end
section
variable {E:Env}{G:bl}{S:an}{a:Act}{w:World}{o:Oper}
theorem adB {α:Type}{xs:List α}{n:Nat}{y:α}(h:n<xs.length):Kt xs n y=some (xs.set n y):=by
 induction xs generalizing n with
 |nil=>grind
 |cons x xs ih=>
  cases n with
  |zero=>rfl
  |succ n=>simp only[Kt,ih (by simpa using h),List.set_cons_succ]
theorem Dr {α:Type}{A B:List α}{base:Nat}(hA:A.length=base):∀{cs ys zs:List α}{off:Nat},gY ys off cs=some zs->gY (A++(ys++B)) (base+off) cs=some (A++(zs++B))
 |[],ys,zs,off,h=>by simp only[gY,bN]at h⊢;rw[h]
 |c::cs,ys,zs,off,h=>by simp only[gY]at h⊢;split at h;rename_i us ZD;obtain⟨h1,rfl⟩:=LA ZD;rw[adB (by grind)];simp only;rw[List.set_append_right _ _ oO,hA,show base+off-base=off by omega,List.set_append_left _ _ h1];exact Dr hA h;simp_all
theorem Io (hs:bA E G S a w){t e:TypeId}{len:Nat}{parts:Array (Nat×Operand)}{j:jV}{cs:List FV}{sa sb:Nat}{sz:List Value}(ho:o.op=.buildSlice t len parts)(ht:bV E.C.jE t=some ⟨sa,sb,.slice e,sz⟩)(hj:bV E.C.jE e=some j)(hle':len*j.size<=1000000)(hcs:gu j.size S parts.toList (pV len (j.zero.map FV.iC))=some cs):∃us:Array Value,(execOp a.eval o).run E.C.P w=.ok (.value (.slice (some ⟨w.heap.size,0,none⟩) len len)) (w.alloc (.cells us e))/\zl G w us.toList cs/\us.size=len*j.size:=by
 have hu:=(E.C.ok ht).slice;have hok:=E.C.ok hj;obtain⟨z,hzr,GQ⟩:=hok.zeroV w;have akM:z.cells.size=j.size:=by rw[<-jH,GQ,hok.len]
 have hbase:∀zz:Array Value,(len*j.size=0\/zz=z.cells)->((Array.range (len*j.size)).map (zz[·%zz.size]!)).toList=pV len j.zero:=λzz hzz=>by obtain⟨r1,r2⟩:=si j.zero len;rw[hok.len]at r1 r2;apply gz;grind
 have hrl:∀zz:Array Value,(len*j.size=0\/zz=z.cells)->zl G w ((Array.range (len*j.size)).map (zz[·%zz.size]!)).toList (pV len (j.zero.map FV.iC)):=λzz hzz=>by rw[hbase zz hzz,Il];exact rB _
 obtain⟨us,ZD,oD⟩:∃us,(∀zz:Array Value,(len*j.size=0\/zz=z.cells)->Instr.fill (λi=>some (i*j.size,j.size)) ((Array.range (len*j.size)).map (zz[·%zz.size]!)) (parts.toList.map λ(i,x)=>(i,a.eval x))=some us)/\zl G w us.toList cs:=by obtain⟨us,h3,h4⟩:=sE hs parts.toList _ _ _ (hrl z.cells (.inr rfl)) hcs;grind
 have ZE:¬len*j.size>2^24:=oO
 have hrun:(execOp a.eval o).run E.C.P w=.ok (.value (.slice (some ⟨w.heap.size,0,none⟩) len len)) (w.alloc (.cells us e)):=by
  by_cases h0:len*j.size=0;have h5:=ZD #[] (.inl h0);have h5':Instr.fill (λi=>some (i*j.size,j.size)) #[] (List.map (λx=>(x.1,a.eval x.2)) parts.toList)=some us:=by
   have h6:(Array.range (len*j.size)).map ((#[]:Array Value)[·%(#[]:Array Value).size]!)=#[]:=by rw[h0];simp
   rw[h6]at h5;exact h5
  have hm0:∀f:Nat->Value,(Array.range 0).map f=#[]:=λf=>by simp
  simp only[execOp,ho,Instr.buildSlice,Sem.run_bind,run_underlying hu,Result.andThen_ok,hok.sizeOf,ZE,if_false,h0,if_true,Sem.run_pure,nW];simp only[show¬(0>2^24)from oO,if_false,Sem.run_pure,Result.andThen_ok,hm0,h5'];rfl;have h5:=ZD z.cells (.inr rfl);simp only[execOp,ho,Instr.buildSlice,Sem.run_bind,run_underlying hu,Result.andThen_ok,hok.sizeOf,ZE,if_false,h0,Sem.run_pure,hzr,nW];simp only[h5];rfl
 have hlen:us.size=len*j.size:=by
  have h6:us.size=cs.length:=by rw[<-oD.1];simp
  have h7:∀(parts:List (Nat×Operand))(xs zs:List FV),gu j.size S parts xs=some zs->zs.length=xs.length:=by
   intro parts;induction parts with
   |nil=>intro xs zs h;simp only[gu,bN]at h;rw[h]
   |cons p parts ih=>obtain⟨i,x⟩:=p;intro xs zs h;simp only[gu]at h;split at h;split at h;grind;rename_i us ZD;rw[ih _ _ h,(rQ ZD).1];simp_all
  rw[h6,h7 _ _ _ hcs,(si _ _).1];simp[hok.len]
 grind
theorem xz (w:World)(us:Array Value)(e:TypeId){t:Nm}:∃cs fr,(w.alloc (.cells us e)).heap[w.heap.size]?=some (.cells cs e fr)/\adw t fr:=⟨_,_,World.alloc_heap_new w _,by cases t<;>trivial⟩
theorem wp_openSlice (hs:bA E G S a w){t e:TypeId}{len:Nat}{parts:Array (Nat×Operand)}{d0:Nat}{K:an->Prop}{sa sb:Nat}{sz:List Value}(ho:o.op=.buildSlice t len parts)(WQ:o.dst=some d0)(ht:bV E.C.jE t=some ⟨sa,sb,.slice e,sz⟩)(h:yY E.C S e d0 len parts.toList K){next:Act->World->Prop}{Q:Exit->Act->World->Prop}(hn:∀S' a' w',K S'->nT E S' a' w'->next a' w'):BP E o a w next Q:=by
 unfold yY FP at h;split at h;simp_all;rename_i j hj;split at h;rename_i hle h0;have hpos:0<j.size:=xx (bH h0);split at h;rename_i cs hcs;split at h;simp_all;rw[kH,jX]at h;obtain⟨hdn,h⟩:=h;obtain⟨us,hrun,oD,hsz⟩:=Io hs ho ht hj (iD hle) hcs;generalize hd:S.off+d0=d at h hdn;obtain⟨G2,g1,g2,g3,g4,g5,g6,g7,g8⟩:=uW hs d hdn us.toList cs e λi x hx=>by
  have hl:i<us.toList.length:=by rw[oD.1];exact(aI.1 hx).1
  exact⟨_,ay hl,oD.2 i _ x (ay hl) hx⟩
 rw[Ds]at g1;have mF:cs.length=len*j.size:=by rw[<-oD.1,jH,hsz]
 have hg:=g1.zq (t:=d) (B:=w.heap.size) (s:=len*j.size) (e:=len*j.size) (T:=e) g4 (by simp) hs.kept.size (xz w us e) (λo q=>by have :o=d:=iE λhne=>g6 o hne q;subst this;refine⟨rfl,?_,λcells hc=>?_⟩;exact lI _ _;simp only[Qv.getObj,jI]at hc;obtain rfl:=aq hc;rw[FV.fT,aj,mF]) (λt' r q=>g5 t' r q) (λo q=>g7 o q) (λi h1 h2=>oO);refine wp_value hrun ?_;rw[WQ];exact hn _ _ _ h ⟨_,hg.put (some d0) (x:=.gH d e j.size) (.gH d e j.size len len w.heap.size g2 (by simp) (aB _) hpos)⟩;simp_all;simp_all
theorem BQ {P:Program}(hs:bA E G S a w){k n c b:Nat}{bP:Nat}{T:TypeId}{xs:List FV}(hk:Qv.getObj S.aK k=some xs)(hl:G.loc k=some b)(ht:G.tail k=some (b,n*bP,c*bP,T)):∃news:List Value,news.length=n*bP/\(∀(i:Nat)(x:FV),xs[i]?=some x->∃u,news[i]?=some u/\aU G w u x)/\∀w',(∀b o,w'.cell? ⟨b,o,none⟩=w.cell? ⟨b,o,none⟩)->(Builtin.firstCells bP n (.slice (some ⟨b,0,none⟩) n c)).run P w'=.ok news.toArray w':=by
 have hlen:=(hs.cL k k b _ hl ht).2.2 xs hk;simp only at hlen;obtain⟨b',h1,h2⟩:=hs.aK k xs hk;obtain rfl:b'=b:=by simp_all
 let f:Nat->Value:=λq=>(w.cell? ⟨b',q,none⟩).getD undef;have hf:∀q,q<n*bP->w.cell? ⟨b',q,none⟩=some (f q):=λq hq=>by
  have hql:q<xs.length:=oO
  obtain⟨u,h3,-⟩:=h2 q _ (ay hql);grind
 refine⟨(List.range (n*bP)).map f,by simp,λi x hx=>?_,λw' hw=>?_⟩;grind;have :=run_loadCells (P:=P) w' ⟨b',0,none⟩ (n*bP) f (λq NJ=>by rw[Addr.add_lit,hw,dF];simp_all);simpa[Builtin.firstCells]using this
theorem bA.Qj (hs:bA E G S a w){k b s0 e0:Nat}{T:TypeId}{xs ys:List FV}{news:List Value}(hk:Qv.getObj S.aK k=some xs)(hl:G.loc k=some b)(ht:G.tail k=some (b,s0,e0,T))(hn:s0+news.length<=e0)(hr:∀(i:Nat)(x:FV),ys[i]?=some x->∃u,news[i]?=some u/\aU G w u x)(hlen:ys.length=news.length):bA E {G with tail:=λt=>if t=k then some (b,s0+news.length,e0,T)else G.tail t} {S.kill k with aK:=(k,FV.fu k (xs++ys))::eH k S.aK} a (w.setCells b s0 news):=by
 obtain⟨t1,t2,tt,t3⟩:=hs.gv k b s0 e0 T ht;obtain⟨-,l2,l3⟩:=hs.gW k b hl;obtain⟨-,hnb,ZM⟩:=hs.cL k k b _ hl ht;have hxl:xs.length=s0:=ZM xs hk;clear ZM;obtain⟨b',hb',hcell⟩:=hs.aK k xs hk;obtain rfl:b'=b:=by simp_all
 have hout:∀b2 i,b2≠b'->(w.setCells b' s0 news).cell? ⟨b2,i,none⟩=w.cell? ⟨b2,i,none⟩:=λb2 i hne=>World.cell?_setCells_out b' _ s0 w ⟨b2,i,none⟩ (λe=>absurd e hne);have hfz:∀x,(w.setCells b' s0 news).frozen? x=w.frozen? x:=λx=>World.frozen?_setCells b' _ s0 w x;have hsz:=jQ b' news s0 w;let G':bl:={G with tail:=λt=>if t=k then some (b',s0+news.length,e0,T)else G.tail t};have up:∀v x,aU G w v x->aU G' (w.setCells b' s0 news) v (x.kill k):=λv x hv=>by have h1:aU {G with tail:=λt=>if t=k then none else G.tail t} w v (x.kill k):=hv.kill k rfl (λ_ _ _ h=>h) (λt r hne h=>by simp_all);refine h1.keep (λ_ _ h=>h) (λb2 i c hi hc=>?_) ((gy.setCells b' _ _ _).qf _) (λ_ _ h=>h) (λt r h=>?_);grind;grind
 refine⟨hs.kept.setCells (E.CR l2) _ _,hs.size,hs.ext'.move (S':={S.kill k with aK:=(k,FV.fu k (xs++ys))::eH k S.aK}) (FV.kill k) rfl rfl rfl up (.setCells b' _ _ _) (.afL k rfl rfl (.kill k rfl (λ_ _ _ h=>h) (λ_ _ h=>h) (λ_ _ _ h=>h) (λ_ _ h=>h) λ_ _ h=>h)),?_,hs.nS,λb o h=>by rw[hsz];exact hs.fJ b o h,λi hi=>up _ _ (hs.tmps i hi),λo cs ho=>?_,λo b ho=>?_,hs.fq,λo t b r h h'=>?_,λt b s e T' h=>?_,λt t' b r r' h h'=>?_⟩;refine hs.jr.keep rfl rfl (λo bs q=>⟨(kW q).2,rfl,rfl⟩) (λo bs q0 q=>?_) (λ_ _ e=>e) oO (λo bs b q q2 e=>iA _ _ _ _ _ (λe2=>?_)) (λo r e=>iA _ _ _ _ _ (λe2=>(hs.jr.row o r e).2.2.2.1 k (e2▸hl))) (λ_ _ _ _ e=>e) (λ_ _ _ _ e=>e) (λo r t q _ e=>?_);simp only[Qv.getObj];split;simp_all;exact oU q;have :=hs.fq o k b e (e2▸hl);simp_all;grind;simp only[Qv.getObj]at ho;split at ho;rename_i Qe;obtain rfl:=aN Qe;obtain rfl:=aq ho;refine⟨b',hl,λi x hx=>?_⟩;rw[FV.fT,aM]at hx;cases hy:(xs++ys)[i]?with
 |none=>simp_all
 |some y=>rw[hy]at hx;obtain rfl:=aq hx;by_cases hi:i<xs.length;rw[cF hi]at hy;obtain⟨c,h2,h3⟩:=hcell i y hy;refine⟨c,?_,up _ _ h3⟩;rw[World.cell?_setCells_out b' _ s0 w ⟨b',i,none⟩ (λ_ _=>by simp_all)];omega;rw[dN oO]at hy;obtain⟨u,h2,h3⟩:=hr _ y hy;have YT:i-xs.length<news.length:=(aI.1 h2).1;have hin:=World.cell?_setCells_in b' news s0 w (λq NJ=>by grind) _ YT;grind
 rename_i Qe;obtain⟨hne,cs0,h2,rfl⟩:=lH ho;obtain⟨b2,h3,h4⟩:=hs.aK o cs0 h2;have Bf:b2≠b':=λe=>hne (hs.fq o k b2 h3 (e▸hl));refine⟨b2,h3,λi x hx=>?_⟩;rw[FV.fT,aM]at hx;grind;obtain⟨k1,k2,k3⟩:=hs.gW o b ho;simp_all;simp only at h h';split at h';rename_i htk;have :=aq h';injection this with q1 q2;subst q1;subst q2;subst htk;obtain rfl:=hs.fq o k b' h hl;refine⟨rfl,lI _ _,λcells hc=>?_⟩;simp only[Qv.getObj,jI]at hc;obtain rfl:=aq hc;rw[FV.fT,aj,aA,hxl,hlen];rename_i hne;have h1:=hs.cL o t b r h h';have hto:=h1.1;refine lX.mono h1 (λbs q=>⟨bs,(kW q).2⟩) λcells q=>?_;simp only[Qv.getObj]at q;split at q;simp_all;obtain⟨-,cs0,h2,rfl⟩:=lH q;exact⟨cs0,h2,by rw[FV.fT,aj]⟩;simp only at h;split at h;rename_i et;have :=aq h;injection this with q1 q2;injection q2 with q2 q3;injection q3 with q3 q4;subst q1;subst q2;subst q3;subst q4;subst et;refine⟨oO,t2,jR _ _ _ _ _ _ tt,λi hi hi'=>?_⟩;obtain⟨⟨c,k4⟩,k5,k6⟩:=t3 i oO hi';refine⟨⟨c,?_⟩,by simp_all,k6⟩;rw[World.cell?_setCells_out b' _ s0 w ⟨b',i,none⟩ (λ_ _=>by simp_all)];omega;rename_i hne;obtain⟨k1,k2,kt,k3⟩:=hs.gv t b s e T' h;have Bf:b≠b':=λe'=>hne (hs.ew t k b' _ _ (e'▸h) ht);refine⟨oO,k2,jR _ _ _ _ _ _ kt,λi hi hi'=>?_⟩;simp_all;simp only at h h';split at h<;>split at h';simp_all;obtain⟨rfl,-⟩:=iF (aq h);exact(hs.ew _ _ _ _ _ ht h').symm▸oO;obtain⟨rfl,-⟩:=iF (aq h');exact(hs.ew _ _ _ _ _ h ht).trans (by grind);exact hs.ew t t' b r r' h h'
theorem AI (hs:bA E G S a w)(d:Nat)(hdn:iK d=false){zs:List FV}{cells:List Value}{s cap:Nat}{e:TypeId}(hlen:zs.length=s)(mF:cells.length=cap)(hr:∀(i:Nat)(x:FV),zs[i]?=some x->∃c,cells[i]?=some c/\aU G w c x):∃G',bA E G' {S.kill d with aK:=(d,FV.fu d zs)::eH d S.aK} a (w.alloc (.cells cells.toArray e))/\G'.loc d=some w.heap.size/\G'.tail d=some (w.heap.size,s,cap,e):=by obtain⟨G2,g1,g2,g3,g4,g5,g6,g7,g8⟩:=uW hs d hdn cells zs e hr;have hg:=g1.zq (t:=d) (B:=w.heap.size) (s:=s) (e:=cap) (T:=e) g4 (by simp) hs.kept.size (xz w _ e) (λo q=>by have :o=d:=iE λhne=>g6 o hne q;subst this;refine⟨rfl,lI _ _,λcells hc=>?_⟩;simp only[Qv.getObj,jI]at hc;obtain rfl:=aq hc;rw[FV.fT,aj,hlen]) (λt' r q=>g5 t' r q) (λo q=>g7 o q) (λi h1 h2=>by simp_all);grind
theorem bA.Vw (hs:bA E G S a w){k b n N bP e0:Nat}{T:TypeId}{xs:List FV}(hk:Qv.getObj S.aK k=some xs)(hl:G.loc k=some b)(ht:G.tail k=some (b,N*bP,e0,T))(hn:n<=N*bP)(hle:N*bP<=e0):bA E {G with tail:=λt=>if t=k then some (b,n,e0,T)else G.tail t} {S.kill k with aK:=(k,FV.fu k (xs.take n))::eH k S.aK} a w:=by
 obtain⟨t1,t2,tt,t3⟩:=hs.gv k b _ e0 T ht;obtain⟨-,l2,l3⟩:=hs.gW k b hl;obtain⟨-,hnb,ZM⟩:=hs.cL k k b _ hl ht;have hxl:xs.length=N*bP:=ZM xs hk;clear ZM;obtain⟨b',hb',hcell⟩:=hs.aK k xs hk;obtain rfl:b'=b:=by simp_all
 let G':bl:={G with tail:=λt=>if t=k then some (b',n,e0,T)else G.tail t};have up:∀v x,aU G w v x->aU G' w v (x.kill k):=λv x hv=>by have h1:aU {G with tail:=λt=>if t=k then none else G.tail t} w v (x.kill k):=hv.kill k rfl (λ_ _ _ h=>h) (λt r hne h=>by simp_all);refine h1.keep (λ_ _ h=>h) (λb2 i c hi hc=>hc) (wN.refl _ _) (λ_ _ h=>h) (λt r h=>?_);grind
 refine⟨hs.kept,hs.size,hs.ext'.move (S':={S.kill k with aK:=(k,FV.fu k (xs.take n))::eH k S.aK}) (FV.kill k) rfl rfl rfl up (gy.refl w) (.afL k rfl rfl (.kill k rfl (λ_ _ _ h=>h) (λ_ _ h=>h) (λ_ _ _ h=>h) (λ_ _ h=>h) λ_ _ h=>h)),?_,hs.nS,hs.fJ,λi hi=>up _ _ (hs.tmps i hi),λo cs ho=>?_,hs.gW,hs.fq,λo t b r h h'=>?_,λt b s e T' h=>?_,λt t' b r r' h h'=>?_⟩;refine hs.jr.keep rfl rfl (λo bs q=>⟨(kW q).2,rfl,rfl⟩) (λo bs q0 q=>?_) (λ_ _ e=>e) (aB _) (λo bs b q q2 e=>rfl) (λo r e=>rfl) (λ_ _ _ _ e=>e) (λ_ _ _ _ e=>e) (λo r t q _ e=>?_);simp only[Qv.getObj];split;simp_all;exact oU q;grind;simp only[Qv.getObj]at ho;split at ho;rename_i Qe;obtain rfl:=aN Qe;obtain rfl:=aq ho;refine⟨b',hl,λi x hx=>?_⟩;rw[FV.fT,aM]at hx;grind;rename_i Qe;obtain⟨hne,cs0,h2,rfl⟩:=lH ho;obtain⟨b2,h3,h4⟩:=hs.aK o cs0 h2;refine⟨b2,h3,λi x hx=>?_⟩;rw[FV.fT,aM]at hx;grind;simp only at h h';split at h';rename_i htk;have :=aq h';injection this with q1 q2;subst q1;subst q2;subst htk;obtain rfl:=hs.fq o k b' h hl;refine⟨rfl,lI _ _,λcells hc=>?_⟩;simp only[Qv.getObj,jI]at hc;obtain rfl:=aq hc;rw[FV.fT,aj,aR,hxl];omega;rename_i hne;have h1:=hs.cL o t b r h h';have hto:=h1.1;refine lX.mono h1 (λbs q=>⟨bs,(kW q).2⟩) λcells q=>?_;simp only[Qv.getObj]at q;split at q;simp_all;obtain⟨-,cs0,h2,rfl⟩:=lH q;exact⟨cs0,h2,by rw[FV.fT,aj]⟩;simp only at h;split at h;rename_i et;have :=aq h;injection this with q1 q2;injection q2 with q2 q3;injection q3 with q3 q4;subst q1;subst q2;subst q3;subst q4;subst et;refine⟨t1,t2,tt,λi hi hi'=>?_⟩;by_cases hin:i<N*bP;obtain⟨c,h2,-⟩:=hcell i _ (ay oO);simp_all;simp_all;exact hs.gv t b s e T' h;simp only at h h';split at h<;>split at h';simp_all;obtain⟨rfl,-⟩:=iF (aq h);exact(hs.ew _ _ _ _ _ ht h').symm▸oO;obtain⟨rfl,-⟩:=iF (aq h');exact(hs.ew _ _ _ _ _ h ht).trans (by grind);exact hs.ew t t' b r r' h h'
theorem wp_evCutO (hs:bA E G S a w){K:an->Prop}{x hi:Operand}{t:TypeId}(ho:o.op=.slice t x none (some hi) none){k:Nat}{T:TypeId}{bP:Nat}(hx:S.val x=.gH k T bP)(h:SQ E.C t o.dst S k T bP (S.val hi) K){next:Act->World->Prop}{Q:Exit->Act->World->Prop}(hn:∀S' a' w',K S'->nT E S' a' w'->next a' w'):BP E o a w next Q:=by
 have Hr:=aU.val hs x;have hhv:=aU.val hs hi;rw[hx]at Hr;generalize S.val hi=vh at h hhv;unfold SQ at h;split at h;rename_i d _ _ e _ kk n hd ht;have KD:=(E.C.ok ht).slice;split at h;simp_all;rename_i j hj;have hjs:=(E.C.ok hj).sizeOf w;split at h;rename_i xs hb hxs;obtain rfl:=aN hb;obtain⟨hkn,hxs⟩:=jl hxs;obtain⟨m,N,rfl,hN,hm,zs,rfl,hK⟩:=h;generalize LD:a.eval x=vv at Hr;cases Hr with
 |gH _ _ _ n' c b p1 p2 p3 p4=>
  have hxl:=(hs.cL _ _ _ _ p1 p2).2.2 xs hxs;simp only at hxl;obtain rfl:N=n':=gP p4 (hN.symm.trans hxl);have hh:a.eval hi=.int kk m:=hhv.gh;have hbd:=mS (P:=E.C.P) (w:=w) true N c none (some (.int kk m)) 0 m (zL) oO (.inl ⟨rfl,rfl⟩) (.inr ⟨kk,rfl⟩);have hrun:(execOp a.eval o).run E.C.P w=.ok (.value (.slice (some ⟨b,0,none⟩) m c)) w:=by simp[execOp,ho,LD,hh,Instr.sliceAt,run_underlying KD,Instr.slice,hbd,hjs,Addr.add_lit]
  have adD:=hs.Vw hxs p1 p2 (n:=m*j.size) (fG _ hm) (fG _ p3);refine wp_value hrun (hn _ _ _ hK ⟨{G with tail:=λt=>if t=k then some (b,m*j.size,c*j.size,T)else G.tail t},?_⟩);rw[hd];exact adD.put (some d) (v:=.slice (some ⟨b,0,none⟩) m c) (x:=.gH k T j.size) (.gH k T j.size m c b p1 (by simp_all) oO p4)
 simp_all;simp_all
theorem wp_evTailO (hs:bA E G S a w){K:an->Prop}{x lo:Operand}{t:TypeId}(ho:o.op=.slice t x (some lo) none none){k:Nat}{T:TypeId}{bP:Nat}(hx:S.val x=.gH k T bP)(h:Nw E.C t o.dst S k T bP (S.val lo) K){next:Act->World->Prop}{Q:Exit->Act->World->Prop}(hn:∀S' a' w',K S'->nT E S' a' w'->next a' w'):BP E o a w next Q:=by
 have Hr:=aU.val hs x;have hhv:=aU.val hs lo;rw[hx]at Hr;generalize S.val lo=vh at h hhv;unfold Nw at h;split at h;rename_i d _ _ e _ kk n hd ht;have KD:=(E.C.ok ht).slice;split at h;simp_all;rename_i j hj;have hjs:=(E.C.ok hj).sizeOf w;split at h;rename_i xs hb hxs;obtain rfl:=aN hb;obtain⟨hkn,hxs⟩:=jl hxs;obtain⟨m,N,rfl,hN,hm,hK⟩:=h;generalize LD:a.eval x=vv at Hr;cases Hr with
 |gH _ _ _ n' c b p1 p2 p3 p4=>
  have hxl:=(hs.cL _ _ _ _ p1 p2).2.2 xs hxs;simp only at hxl;obtain rfl:N=n':=gP p4 (hN.symm.trans hxl);have hh:a.eval lo=.int kk m:=hhv.gh;have hbd:=mS (P:=E.C.P) (w:=w) true N c (some (.int kk m)) none m N hm p3 (.inr ⟨kk,rfl⟩) (.inl ⟨rfl,rfl⟩);have hrun:(execOp a.eval o).run E.C.P w=.ok (.value (.slice (some ⟨b,if c=m then 0 else m*j.size,none⟩) (N-m) (c-m))) w:=by
   by_cases hcm:c=m;subst hcm;simp[execOp,ho,LD,hh,Instr.sliceAt,run_underlying KD,Instr.slice,hbd,hjs,Addr.add_lit];have h0:¬c-m=0:=oO
   simp[execOp,ho,LD,hh,Instr.sliceAt,run_underlying KD,Instr.slice,hbd,hjs,Addr.add_lit,hcm,h0]
  refine wp_value hrun (hn _ _ _ hK ⟨G,?_⟩);rw[hd];exact hs.put (some d) (x:=.uK k m T j.size) (.uK k m T j.size N c b _ p1 p2 ⟨hm,λh=>af oO⟩ p3 p4)
 simp_all;simp_all
theorem NL {α:Type}:∀{ys xs:List α}{n:Nat},xs.length=n+ys.length->gY xs n ys=some (xs.take n++ys)
 |[],xs,n,h=>by simp only[gY,bh];rw[ej (by simp_all)]
 |y::ys,xs,n,h=>by
  have hA:(xs.take n).length=n:=by rw[aR];omega
  have e:xs=xs.take n++(xs.drop n++[]):=by rw[bh,fH]
  have hd:(xs.drop n).length=(y::ys).length:=by rw[dL];omega
  have key:∀{cs ds:List α}{pre:List α},ds.length=cs.length->gY (pre++ds) pre.length cs=some (pre++cs):=by
   intro cs;induction cs with
   |nil=>intro ds pre hl;rw[ck.1 hl];rfl
   |cons c cs ih=>
    intro ds pre hl;match ds,hl with
     |d::ds,hl=>
      have hl:ds.length=cs.length:=by simpa using hl
      have h1:Kt (pre++d::ds) pre.length c=some (pre++c::ds):=by
       clear ih hl;induction pre with
       |nil=>rfl
       |cons p pre ih=>simp only[cr,aW,Kt,ih]
      have h2:=ih (ds:=ds) (pre:=pre++[c]) hl;simp only[aA,fc,bq,tq]at h2;simp only[gY,h1,h2]
  grind
theorem Te {P:Program}(w:World)(t e ty:TypeId)(z:Value)(ht:P.underlying t=some (.slice e))(hv:(zeroValue e).run P w=.ok z w)(b o n c:Nat)(hst:(storeCells ⟨b,o,none⟩ (pV n z.cells.toList) 0).run P w=.ok () (w.setCells b o (pV n z.cells.toList))):(Builtin.clear_ #[t] ty #[.slice (some ⟨b,o,none⟩) n c]).run P w=.ok (.tuple #[]) (w.setCells b o (pV n z.cells.toList)):=by
 have GQ:(Builtin.zeroCells z.cells n).toList=pV n z.cells.toList:=by
  obtain⟨g1,g2⟩:=si z.cells.toList n;apply gz;intro i;by_cases hi:i<n*z.cells.toList.length;rw[g2 i hi];have hi':i<n*z.cells.size:=by simpa using hi
  have hpos:0<z.cells.size:=by rcases Nat.eq_zero_or_pos z.cells.size with h0|h0;simp_all;omega
  have hm:i%z.cells.size<z.cells.size:=oc _ hpos;simp[Builtin.zeroCells,hi',hm];rw[oe (l:=pV n z.cells.toList) oO,oe];have hi2:¬i<n*z.cells.size:=by simpa using hi
  simp only[Builtin.zeroCells,nW,aj,Array.toList_range,fe];omega
 cases n with
 |zero=>simp[Builtin.clear_,run_underlying ht];rfl
 |succ n=>simp[Builtin.clear_,run_underlying ht,hv,GQ,hst]
theorem wp_evAppO (hs:bA E G S a w){d:Nat}{K:an->Prop}{x y:Operand}{t u:TypeId}(ho:o.op=.call ⟨.builtin .append,#[x,y],#[t,u]⟩)(hd:o.dst=some d){o2:Nat}{T2:TypeId}{e2:Nat}(hy:S.val y=.gH o2 T2 e2)(h:SK E.C t u d S (S.val x) o2 T2 e2 K){next:Act->World->Prop}{Q:Exit->Act->World->Prop}(hn:∀S' a' w',K S'->nT E S' a' w'->next a' w'):BP E o a w next Q:=by
 have Hr:=aU.val hs x;have hyv:=aU.val hs y;rw[hy]at hyv;generalize S.val x=vx at h Hr;unfold SK at h;split at h;rename_i e _ ui ht hui;have KD:=(E.C.ok ht).slice;obtain⟨dd,ZN,hsh⟩:=(E.C.ok hui).zh;split at h;simp_all;rename_i zw;have hdk:∀k,dd≠.int k:=λk e=>by rw[<-hsh,e]at zw;simp[shapeOf,Shape.FM]at zw
 split at h;simp_all;rename_i j hj;have hok:=E.C.ok hj;split at h;rename_i he2 hT2 hb0;obtain rfl:=aN he2;obtain rfl:=aN hT2;have hb0:=bH hb0;split at h;simp_all;rename_i ys hys;generalize Qk:a.eval y=vy at hyv;cases hyv with
 |gH _ _ _ m c2 b2 q1 q2 q3 q4=>
  have Vx:=(hs.cL _ _ _ _ q1 q2).2.2 ys hys;simp only at Vx;obtain⟨news,nl,nr,nf⟩:=BQ (P:=E.C.P) hs hys q1 q2;have hl:(Builtin.lenOf (.slice (some ⟨b2,0,none⟩) m c2)).run E.C.P w=.ok m w:=by simp[Builtin.lenOf]
  have hone:jW ys=true->∀v,v∈news->v.oneCell'=true:=λh1 v hv=>by
   obtain⟨i,hi⟩:=iX hv;have FQ:i<ys.length:=by rw[Vx,<-nl];exact(aI.1 hi).1
   obtain⟨v',h2,h3⟩:=nr i _ (ay FQ);rw[hi]at h2;obtain rfl:=aq h2;exact h3.Zy (rz.1 h1 _ (aQ FQ))
  split at h;rename_i k T bP;split at h;rename_i he hT hne;obtain rfl:=aN he;obtain rfl:=aN hT;split at h;simp_all;rename_i xs hxs;obtain⟨hkn,hxs⟩:=jl hxs;obtain⟨n,m',WR,hm1,h1,hbd,zs,rfl,hK⟩:=h;generalize NM:a.eval x=vv at Hr;cases Hr with
  |gH _ _ _ n' c b p1 p2 p3 p4=>
   have hxl:=(hs.cL _ _ _ _ p1 p2).2.2 xs hxs;simp only at hxl;obtain rfl:n=n':=gP p4 (WR.symm.trans hxl);obtain rfl:m'=m:=gP p4 (hm1.symm.trans Vx);obtain⟨t1,t2,tt,t3⟩:=hs.gv _ _ _ _ _ p2;by_cases hc:n+m'<=c;have hq:n*j.size+news.length<=c*j.size:=by have :=fG j.size hc;rw[bK]at this;omega
   have hrun:=od (P:=E.C.P) (w:=w) (ty:=o.type) (b:=b) (off:=0) KD ZN hdk hok hl (nf w λ_ _=>rfl) hc (λq NJ=>by grind) (λq NJ=>by grind) (hone h1);rw[dF]at hrun;have hg:=hs.Qj (news:=news) hxs p1 p2 hq nr oO;have hex:(execOp a.eval o).run E.C.P w=.ok (.value (.slice (some ⟨b,0,none⟩) (n+m') c)) (w.setCells b (n*j.size) news):=by simp[execOp,ho,resolve,invoke,builtin,NM,Qk,hrun]
   refine wp_value hex (hn _ _ _ hK ⟨{G with tail:=λt=>if t=k then some (b,n*j.size+news.length,c*j.size,T)else G.tail t},?_⟩);rw[hd];refine hg.put (some d) (v:=.slice (some ⟨b,0,none⟩) (n+m') c) (x:=.gH k T j.size) (.gH k T j.size (n+m') c b p1 ?_ hc p4);simp only[if_true];rw[nl,bK];obtain⟨olds,ol,or',of'⟩:=BQ (P:=E.C.P) hs hxs p1 p2;obtain⟨rest,z,hz,qX,hrun⟩:=iZ (P:=E.C.P) (w:=w) (ty:=o.type) (news:=news) (olds:=olds) KD ZN hdk hok hl nf of' hc hbd hb0;have hcap:n+m'<=grownCap w (n+m') c T:=grownCap_ge w _ _ _;generalize hcg:grownCap w (n+m') c T=cap at*;have hrl:rest.size=(cap-(n+m'))*j.size:=by rw[qX,size_zeroCells,hz]
   have mF:(olds++news++rest.toList).length=cap*j.size:=by simp only[aA,ol,nl,jH,hrl,<-bK];rw[show n+m'+(cap-(n+m'))=cap from oO]
   obtain⟨G',g1,g2,g3⟩:=AI hs.drew k hkn (zs:=xs++ys) (cells:=olds++news++rest.toList) (s:=(n+m')*j.size) (cap:=cap*j.size) (e:=T) (by grind) mF (λi z hz=>by have hk:∀{v:Value}{z:FV},aU G w v z->aU G {w with drawn:=w.drawn+1} v z:=λh=>h.keep (λ_ _ h=>h) (λ_ _ _ _ h=>h) (λ_ _ _ _ h=>h) (λ_ _ h=>h) (λ_ _ h=>h);grind);have hW:w.drew.alloc (.cells (olds.toArray++news.toArray++rest) T)=({w with drawn:=w.drawn+1}:World).alloc (.cells (olds++news++rest.toList).toArray T):=by
    have :olds.toArray++news.toArray++rest=(olds++news++rest.toList).toArray:=by apply iW.1;simp
    rw[this];rfl
   rw[hW]at hrun;refine wp_value (v:=.slice (some ⟨w.heap.size,0,none⟩) (n+m') cap) (w':=({w with drawn:=w.drawn+1}:World).alloc (.cells (olds++news++rest.toList).toArray T)) ?_ (hn _ _ _ hK ⟨G',?_⟩);simp[execOp,ho,resolve,invoke,builtin,NM,Qk]at hrun⊢;simp_all;rw[hd];exact g1.put (some d) (v:=.slice (some ⟨w.heap.size,0,none⟩) (n+m') cap) (x:=.gH k T j.size) (.gH k T j.size (n+m') cap w.heap.size g2 g3 hcap p4)
  simp_all;obtain⟨m',hm0,hm1,h1,hbd,h⟩:=h;rw[jX]at h;obtain⟨hdn,zs,rfl,hK⟩:=h;generalize NM:a.eval x=vv at Hr;cases Hr with
  |full _ ad hr0=>
   obtain rfl:m'=m:=gP q4 (hm1.symm.trans Vx);have of':∀w',(∀b o,w'.cell? ⟨b,o,none⟩=w.cell? ⟨b,o,none⟩)->(Builtin.firstCells j.size 0 (.slice ad 0 0)).run E.C.P w'=.ok ([]:List Value).toArray w':=λw' _=>by cases ad<;>simp[Builtin.firstCells,loadCells,loadCellsFrom]
   obtain⟨rest,z,hz,qX,hrun⟩:=iZ (P:=E.C.P) (w:=w) (ty:=o.type) (base:=ad) (n:=0) (c:=0) (news:=news) (olds:=[]) KD ZN hdk hok hl nf of' oO (by simp_all) hb0;have hcap:0+m'<=grownCap w (0+m') 0 T2:=grownCap_ge w _ _ _;generalize hcg:grownCap w (0+m') 0 T2=cap at*;have hrl:rest.size=(cap-(0+m'))*j.size:=by rw[qX,size_zeroCells,hz]
   have mF:(news++rest.toList).length=cap*j.size:=by simp only[aA,nl,jH,hrl,<-bK];rw[show m'+(cap-(0+m'))=cap from oO]
   generalize hnm:S.off+d=nm at hK hdn;obtain⟨G',g1,g2,g3⟩:=AI hs.drew nm hdn (zs:=ys) (cells:=news++rest.toList) (s:=m'*j.size) (cap:=cap*j.size) (e:=T2) Vx mF (λi z hz=>by have hk:∀{v:Value}{z:FV},aU G w v z->aU G {w with drawn:=w.drawn+1} v z:=λh=>h.keep (λ_ _ h=>h) (λ_ _ _ _ h=>h) (λ_ _ _ _ h=>h) (λ_ _ h=>h) (λ_ _ h=>h);grind);have hW:w.drew.alloc (.cells (([]:List Value).toArray++news.toArray++rest) T2)=({w with drawn:=w.drawn+1}:World).alloc (.cells (news++rest.toList).toArray T2):=by
    have :([]:List Value).toArray++news.toArray++rest=(news++rest.toList).toArray:=by apply iW.1;simp
    rw[this];rfl
   rw[hW]at hrun;refine wp_value (v:=.slice (some ⟨w.heap.size,0,none⟩) (0+m') cap) (w':=({w with drawn:=w.drawn+1}:World).alloc (.cells (news++rest.toList).toArray T2)) ?_ (hn _ _ _ hK ⟨G',?_⟩);simp[execOp,ho,resolve,invoke,builtin,NM,Qk]at hrun⊢;simp_all;rw[hd];exact g1.put (some d) (v:=.slice (some ⟨w.heap.size,0,none⟩) (0+m') cap) (x:=.gH nm T2 j.size) (.gH nm T2 j.size (0+m') cap w.heap.size g2 (by simp_all) hcap q4)
  simp_all
 simp_all;simp_all
theorem BR {d Z o:Nat}{rj:List (List AV)}{cells:List FV}:∀{l:List (Nat×List FV)},Qv.getObj (AB d Z rj l) o=some cells->o≠d/\∃cs,Qv.getObj l o=some cs/\cells=FV.CM d Z rj cs:=by
 intro l;induction l with
 |nil=>intro h;cases h
 |cons p l ih=>
  obtain⟨u,i⟩:=p;intro h;simp only[AB]at h;split at h;rename_i hb;obtain rfl:=aN hb;obtain⟨h1,cs,h2,h3⟩:=ih h;refine⟨h1,cs,?_,h3⟩;simp only[Qv.getObj];have :Nat.beq u o=false:=by cases hb:Nat.beq u o;rfl;simp_all
  simp_all;rename_i hb;simp only[Qv.getObj]at h⊢;grind
theorem nG {α:Type}{e:Nat}:∀{l:List (List α)},(∀zs,zs∈l->zs.length=e)->∀{i j:Nat}{zs:List α}{z:α},l[i]?=some zs->zs[j]?=some z->l.flatten[i*e+j]?=some z
 |[],_,i,j,zs,z,h,_=>by grind
 |x::l,hl,0,j,zs,z,h1,h2=>by grind
 |x::l,hl,i+1,j,zs,z,h1,h2=>by have hx:=hl x (by simp);rw[nU,dN (by grind),hx,show(i+1)*e+j-e=i*e+j by grind];exact nG (λzs hz=>hl zs (by grind)) (by simp_all) h2
theorem aU.Kv {G G':bl}{w:World}{v:Value}{x:FV}{d Z:Nat}{rj:List (List AV)}(h:aU G w v x)(hi:∀b o,G.br b o->G'.br b o)(hl:∀o b,o≠d->G.loc o=some b->G'.loc o=some b)(ht:∀(t:Nat) r,G.tail t=some r->G'.tail t=some r)(hO:∀(T:TypeId)(bP n c b:Nat),G.loc d=some b->G.tail d=some (b,n*bP,c*bP,T)->n<=c->0<bP->bP=Z->aU G' w (.slice (some ⟨b,0,none⟩) n c) (.gd d T bP rj))(hy:∀l k,G.yl l=some k->G'.yl l=some k:=by intro _ _ h;exact h)(hmp:∀o b,o≠d->G.mp o=some b->G'.mp o=some b:=by intro _ _ _ h;exact h)(hit:∀o b,o≠d->G.it o=some b->G'.it o=some b:=by intro _ _ _ h;exact h):aU G' w v (x.Kv d Z rj):=by
 have get:∀{cs:List Value}{xs:List FV},(∀(i:Nat)(c:Value)(x:FV),cs[i]?=some c->xs[i]?=some x->aU G' w c (x.Kv d Z rj))->∀(i:Nat)(c:Value)(x:FV),cs[i]?=some c->(FV.CM d Z rj xs)[i]?=some x->aU G' w c x:=λ{cs xs} ih i c x h1 h2=>by rw[FV.wW,aM]at h2;grind
 induction h with
 |p v x h=>exact .p v x (h.keep hi (λ_ _ _ _ h=>h) (.refl _ _))
 |agg cs xs hn _ ih=>exact .agg cs _ (by simpa[FV.wW]using hn) (get ih)
 |eN cs xs hn _ ih=>exact .eN cs _ (by simpa[FV.wW]using hn) (get ih)
 |ptr o off b h=>simp only[FV.Kv];split;exact .dW _;rename_i hb;exact .ptr o off b (hl o b (bH hb) h)
 |gd t T bP xs a c h1 h2=>simp only[FV.Kv];split;exact .p _ _ (h1.keep hi (λ_ _ _ _ h=>h) (.refl _ _));refine .gd t T bP xs a c (h1.keep hi (λ_ _ _ _ h=>h) (.refl _ _)) ?_;grind
 |full xs a h=>exact .full xs a (h.keep hi (λ_ _ _ _ h=>h) (.refl _ _))
 |fn f fs cs first captured hn hn' _ _ ih GM=>exact .fn f fs cs _ _ (by simpa[FV.wW]using hn) (by simpa[FV.wW]using hn') (get ih) (get GM)
 |mh l k h=>simp only[FV.Kv];split;exact .dW _;exact .mh l k (hy _ _ h)
 |gH o T bP n c b h1 h2 h3 h4=>simp only[FV.Kv];split;rename_i hb;obtain rfl:=aN hb;split;rename_i he;exact hO T bP n c b h1 h2 h3 h4 (aN he);exact .dW _;rename_i hb;exact .gH o T bP n c b (hl o b (bH hb) h1) (ht o _ h2) h3 h4
 |uK o x T bP n c b off h1 h2 h0 h3 h4=>simp only[FV.Kv];split;exact .dW _;rename_i hb;exact .uK o x T bP n c b off (hl o b (bH hb) h1) (ht o _ h2) h0 h3 h4
 |gV o base off b h=>simp only[FV.Kv];split;exact .dW _;rename_i hb;exact .gV o base off b (hl o b (bH hb) h)
 |gw o b h=>simp only[FV.Kv];split;exact .dW _;rename_i hb;exact .gw o b (hmp o b (bH hb) h)
 |Ay o b h=>simp only[FV.Kv];split;exact .dW _;rename_i hb;exact .Ay o b (hit o b (bH hb) h)
 |dW v=>exact .dW v
theorem mj.Pz {G G':bl}{S:an}{w:World}{d Z:Nat}{rj:List (List AV)}(hi:∀b i es k,w.heap[b]?=some (.map es k)->(∃o,G'.mp o=some b)->G'.br b i->G.br b i)(hi':∀b,G.br b 0->G'.br b 0)(hmp:G'.mp=G.mp)(hit:G'.it=G.it)(hl:∀o b,G'.loc o=some b->G.loc o=some b)(ht:∀q r,G.tail (.inr q)=some r->G'.tail (.inr q)=some r:=by first|exactλ_ _ h=>h|exactλ_ _ h=>(af (λe=>nomatch e)).trans h):mj (FV.Kv d Z rj) G G' S (S.Pz d Z rj) w:=by refine⟨λ_=>rfl,λo l' h=>?_,λq x h=>?_,λ_ _ h=>hmp▸h,λ_ _ h=>hit▸h,hi,hi',λo b h=>.inl (hl o b h),ht⟩;obtain⟨l,h1,h2⟩:=xo h;obtain⟨h3,h4⟩:=qj h1;simp_all;obtain⟨h1,h2⟩:=qj h;simp_all
theorem bA.Pz (hs:bA E G S a w){d Z:Nat}{rj:List (List AV)}(hf:aic S d Z rj):∃G',bA E G' (S.Pz d Z rj) a w:=by
 obtain⟨⟨cells,hc0,hy⟩,Bs⟩:=hf;obtain⟨hdn,hc⟩:=jl hc0;clear hc0;generalize hys:rj.flatten=ys at hy;obtain⟨B,hB,hcell⟩:=hs.aK d cells hc;obtain⟨Pk,GS,hl3⟩:=hs.gW d B hB;obtain⟨hlen,vX⟩:=FV.jk hy;let G':bl:={G with br:=λb o=>G.br b o\/(b=B/\o<ys.length),loc:=λo=>if o=d then none else G.loc o};have hone:∀y,y∈ys->y.one=true:=λy hy=>by rw[<-hys]at hy;obtain⟨zs,h1,h2⟩:=Dt.1 hy;grind
 have vY:∀o b,G'.loc o=some b->o≠d/\G.loc o=some b:=λo b h=>by grind
 have oD:∀(j:Nat)(y:AV),ys[j]?=some y->∃c,w.cell? ⟨B,j,none⟩=some c/\dH G'.br w c y:=λj y hj=>by obtain⟨x,hx,hxy⟩:=vX j y hj;obtain⟨c,h2,h3⟩:=hcell j x hx;exact⟨c,h2,(h3.fA hxy).keep (λb o h=>.inl h) (λ_ _ _ _ h=>h) (.refl _ _)⟩
 have ZO:∀b i es n,b=B->i<ys.length->w.heap[b]?=some (.map es n)->False:=λb i es n e hi hb=>by subst e;obtain⟨c,h2,-⟩:=oD i _ (ay hi);rw[CT hb]at h2;grind
 have up:∀v x,aU G w v x->aU G' w v (x.Kv d Z rj):=λv x hv=>by
  refine hv.Kv (λb o h=>.inl h) (λo b hne h=>by grind) (λ_ _ h=>h) (λT bP n c b h1 h2 h3 h4 h5=>?_);obtain rfl:b=B:=by simp_all
  subst h5;have h6:=(hs.cL d d b _ h1 h2).2.2 cells hc;simp only at h6;have h7:rj.flatten.length=rj.length*bP:=by
   have :∀l:List (List AV),(∀zs,zs∈l->zs.length=bP)->l.flatten.length=l.length*bP:=by
    intro l;induction l with
    |nil=>simp_all
    |cons z l ih=>grind
   exact this rj λzs hz=>(Bs zs hz).1
  have h8:rj.length=n:=gP h4 (by simp_all);subst h8;refine .gd d T bP rj (some ⟨b,0,none⟩) c (zu h3 (λzs hz=>(Bs zs hz).1) λi zs j z hi hj=>?_) (.inr ⟨b,0,rfl,λzs hz=>(Bs zs hz).1,by grind⟩);rw[dF];have h9:ys[i*bP+j]?=some z:=by rw[<-hys];exact nG (λzs hz=>(Bs zs hz).1) hi hj
  grind
 refine⟨G',hs.kept,hs.size,hs.ext'.move (S':=S.Pz d Z rj) (FV.Kv d Z rj) rfl rfl rfl up (.refl _) (.Pz (λb i es n hb _ h=>h.elim id λh=>(ZO b i es n h.1 h.2 hb).elim) (λ_ h=>.inl h) rfl rfl (λo b h=>(vY o b h).2)),?_,?_,?_,λi hi=>up _ _ (hs.tmps i hi),λo cs ho=>?_,λo b ho=>?_,λo o' b h h'=>hs.fq o o' b (vY _ _ h).2 (vY _ _ h').2,λo t b r h h'=>lX.mono (hs.cL o t b r (vY _ _ h).2 h') (λbs q=>⟨bs,(kW q).2⟩) (λcs q=>?_),λt b s e T h=>?_,hs.ew⟩;refine hs.jr.keep rfl rfl (λo bs q=>?_) (λo _ _ q=>?_) (λ_ _ e=>e) (aB _) (λ_ _ _ _ _ _=>rfl) (λ_ _ _=>rfl) (λo r i e hi=>?_) (λ_ _ o' _ e=>(vY o' _ e).2) (λ_ _ t q _ e=>⟨t,q,e⟩);refine⟨(kW q).2,?_,rfl⟩;have q:=(kW q).2;have hne:o≠d:=λe=>by have :=(hs.jr.at_ o bs q).1;simp_all
 grind;cases h':Qv.getObj (AB d Z rj S.aK) o with
 |none=>exact h'
 |some cs=>obtain⟨-,cs',h2,-⟩:=BR h';simp_all
 rcases hi with hi|⟨rfl,-⟩;omega;exact absurd hB ((hs.jr.row o _ e).2.2.2.1 d);rintro b o (h|⟨rfl,-⟩);exact hs.nS b o h;exact .inr (E.HX GS hdn);rintro b o (h|⟨rfl,-⟩);exact hs.fJ b o h;omega;obtain⟨hne,cs0,h2,rfl⟩:=BR ho;obtain⟨b,h3,h4⟩:=hs.aK o cs0 h2;refine⟨b,by grind,λi x hx=>?_⟩;rw[FV.wW,aM]at hx;grind;obtain⟨hne,ho'⟩:=vY o b ho;obtain⟨k1,k2,k3⟩:=hs.gW o b ho';refine⟨k1,k2,λi=>⟨?_,(k3 i).2⟩⟩;rintro(h|⟨e,-⟩);simp_all;exact hne (hs.fq o d b ho' (by simp_all));obtain⟨-,cs0,h2,rfl⟩:=BR q;exact⟨cs0,h2,by rw[FV.wW,aj]⟩;obtain⟨k1,k2,kt,k3⟩:=hs.gv t b s e T h;refine⟨k1,k2,kt,λi hi hi'=>?_⟩;obtain⟨k4,k5,k6⟩:=k3 i hi hi';refine⟨k4,k5,?_⟩;rintro(h7|⟨rfl,hlt⟩);simp_all;have :=(hs.cL d t b _ hB h).2.2 cells hc;omega
theorem Ql {i d:Nat}(h:i≠d):Nat.beq i d=false:=by cases hb:Nat.beq i d;rfl;simp_all
end
section
variable {E:Env}{G:bl}{S:an}{a:Act}{w:World}{o:Oper}
theorem FW {l:Nat}{o o':Obj}(hl:w.heap[l]?=some o)(ho:o.isCells=false)(ho':o'.isCells=false)(b i:Nat):(w.putObj l o').cell? ⟨b,i,none⟩=w.cell? ⟨b,i,none⟩:=by unfold World.cell?;by_cases hb:b=l;subst hb;have h1:(w.putObj b o').heap[b]?=some o':=World.putObj_heap_same (bz.1 hl).1;simp only[h1,hl];cases o<;>cases o'<;>simp_all[Obj.isCells];have h1:(w.putObj l o').heap[b]?=w.heap[b]?:=World.putObj_heap_other hb;simp_all
theorem KE {l:Nat}{o o':Obj}(hl:w.heap[l]?=some o)(ho:o.isCells=false)(ho':o'.isCells=false)(b i:Nat):(w.putObj l o').frozen? ⟨b,i,none⟩=w.frozen? ⟨b,i,none⟩:=by unfold World.frozen?;by_cases hb:b=l;subst hb;have h1:(w.putObj b o').heap[b]?=some o':=World.putObj_heap_same (bz.1 hl).1;simp only[h1,hl];cases o<;>cases o'<;>simp_all[Obj.isCells];have h1:(w.putObj l o').heap[b]?=w.heap[b]?:=World.putObj_heap_other hb;simp_all
theorem Bt {br:Nat->Nat->Prop}{l:Nat}{o o':Obj}(hl:w.heap[l]?=some o)(h:(∃es k,o=.map es k)->¬br l 0):wN br w (w.putObj l o'):=λb es k hi hb=>by
 have hne:b≠l:=λe=>by simp_all
 have h1:(w.putObj l o').heap[b]?=w.heap[b]?:=World.putObj_heap_other hne;simp_all
theorem bA.putObj (hs:bA E G S a w){l:Nat}{o o':Obj}(hl:w.heap[l]?=some o)(ho:o.isCells=false)(ho':o'.isCells=false)(hw0:E.w0.heap.size<=l\/l∈E.own)(him:(∃es k,o=.map es k)->¬G.br l 0){mD:Option Nat}{bM:List (Array Value)}{loops:List (Nat×Loop)}{fixed:List Nat}{cO:List Az}{defers:List Deferred}{maps:List (Nat×List (AV×FV))}{jD:List (Nat×(Option (AV×AV)×List (AV×AV)))}(hx:(∀v x,aU G w v x->aU G (w.putObj l o') v x)->(∀k ob,k≠l->w.heap[k]?=some ob->(w.putObj l o').heap[k]?=some ob)->(w.putObj l o').heap[l]?=some o'->Ext {E with mD:=mD,bM:=bM,loops:=loops,fixed:=fixed} G {S with cO:=cO,maps:=maps,jD:=jD} {a with defers:=defers} (w.putObj l o')):bA {E with mD:=mD,bM:=bM,loops:=loops,fixed:=fixed} G {S with cO:=cO,maps:=maps,jD:=jD} {a with defers:=defers} (w.putObj l o'):=by
 have hlt:=(bz.1 hl).1;have hc:=λb i=>FW (w:=w) hl ho ho' b i;have hf:=λb i=>KE (w:=w) hl ho ho' b i;have sF:∀k,k≠l->(w.putObj l o').heap[k]?=w.heap[k]?:=λk hk=>World.putObj_heap_other hk;have hsz:(w.putObj l o').heap.size=w.heap.size:=World.putObj_size;have keep:∀v x,aU G w v x->aU G (w.putObj l o') v x:=λv x hv=>hv.keep (λ_ _ h=>h) (λb i c _ h=>by simp_all) (Bt hl him) (λ_ _ h=>h) (λ_ _ h=>h);refine⟨⟨hs.kept.os,hs.kept.tape,hs.kept.output,by rw[hsz];exact hs.kept.size,λk hk hk'=>?_,λk cs T fr hk q=>?_⟩,hs.size,hx keep (λk ob hk h=>by simp_all) (World.putObj_heap_same hlt),?_,hs.nS,λb i h=>by rw[hsz];exact hs.fJ b i h,λi hi=>keep _ _ (hs.tmps i hi),λob cs h=>?_,λob b h=>?_,hs.fq,hs.cL,λt b s e T h=>?_,hs.ew⟩;rw[sF k (by grind)];exact hs.kept.block k hk hk';obtain⟨cs',q1,q2⟩:=hs.kept.shape k cs T fr hk q;refine⟨cs',?_,q2⟩;rw[sF k (λe=>?_)];exact q1;subst e;rw[q1]at hl;obtain rfl:=aq hl;simp[Obj.isCells]at ho;have hcells:∀k cs T fr,w.heap[k]?=some (.cells cs T fr)->k≠l:=λk cs T fr h e=>by subst e;rw[h]at hl;obtain rfl:=aq hl;simp[Obj.isCells]at ho
 refine hs.jr.same rfl rfl rfl rfl oO (λob bs b q q2 q3=>sF b ?_) (λob r q=>sF r (λe=>?_));obtain⟨-,b',q4,p,v,-,q5,-⟩:=hs.jr.at_ ob bs q;grind;obtain⟨cs,T,fr,q5⟩:=hs.jr.dx ob r q;grind;obtain⟨b,h1,h2⟩:=hs.aK ob cs h;grind;obtain⟨h1,h2,h3⟩:=hs.gW ob b h;exact⟨oO,h2,λi=>⟨(h3 i).1,by simp_all⟩⟩;obtain⟨h1,h2,⟨cs,fr,h3,hu⟩,h4⟩:=hs.gv t b s e T h;have hne:b≠l:=λe'=>by subst e';rw[h3]at hl;obtain rfl:=aq hl;simp[Obj.isCells]at ho
 grind
theorem YP.zx (h:YP E G S w){l:Nat}{o:Obj}{w':World}(hl:w.heap[l]?=some o)(ho:(∀(es:Array MapEntry)(k:Nat),o≠Obj.map es k)/\∀(m:Option Nat)(s:Nat)(seen:Array Nat)(c:Nat),o≠Obj.mapIter m s seen c)(keep:∀v x,aU G w v x->aU G w' v x)(ET:∀k ob,k≠l->w.heap[k]?=some ob->w'.heap[k]?=some ob){E':Env}{S':an}(hE:E'.w0=E.w0)(hm:S'.maps=S.maps)(hi:S'.jD=S.jD)(hC:E'.C=E.C:=by rfl)(hL:E'.sg=E.sg:=by rfl):YP E' G S' w':=by
 have hkp:∀v x,dH G.br w v x->dH G.br w' v x:=λv x hv=>(keep v (.p x) (.p v x hv)).plain;have hmap:∀(b:Nat)(es:Array MapEntry)(k:Nat),w.heap[b]?=some (Obj.map es k)->w'.heap[b]?=some (Obj.map es k):=λb es k hb=>ET b _ (λe=>by simp_all) hb;have akU:∀(b:Nat)(m:Option Nat)(s:Nat)(seen:Array Nat)(c:Nat),w.heap[b]?=some (Obj.mapIter m s seen c)->w'.heap[b]?=some (Obj.mapIter m s seen c):=λb m s seen c hb=>ET b _ (λe=>by simp_all) hb;refine⟨λo l h1=>?_,λo b h1=>?_,h.inj,λq x h1=>?_,λq r h1=>?_,h.Bn,h.apart,λo T z k l b gL es g1 g2 g3 g4 i e p g5 g6 g7=>?_⟩;obtain⟨b,gL,es,q1,q2,q3,q4,q5⟩:=h.at_ o l (hm▸h1);grind;obtain⟨q1,q2,es,k,q3⟩:=h.loc o b h1;exact⟨by unfold Env.mine;rw[hE,hL];exact q1,q2,es,k,hmap _ _ _ q3⟩;obtain⟨r,q1,q2⟩:=h.jD q x (hi▸h1);exact⟨r,q1,q2.keep hkp (λ_ h=>h) (λm s seen c h=>akU _ _ _ _ _ h) λb es k _ hb=>hmap _ _ _ hb⟩;obtain⟨q1,m,s,seen,c,q2⟩:=h.Bm q r h1;grind;obtain⟨b',adF,es0,h1,h2,-⟩:=h.at_ o l (hm▸g1);obtain rfl:b'=b:=by simp_all
 obtain rfl:=NA (hmap _ _ _ h2) g4;exact h.room o T z k l b' adF es (hm▸g1) (hC▸g2) h1 h2 i e p g5 g6 g7
theorem Ext.zx (h:Ext E G S a w){l:Nat}{o:Obj}{w':World}(hl:w.heap[l]?=some o)(ho:(∀r,o≠.loop r)/\∀d,o≠.deferred d)(keep:∀v x,aU G w v x->aU G w' v x)(ET:∀k ob,k≠l->w.heap[k]?=some ob->w'.heap[k]?=some ob){maps:List (Nat×List (AV×FV))}{jD:List (Nat×(Option (AV×AV)×List (AV×AV)))}(hm:YP E G {S with maps:=maps,jD:=jD} w'):Ext E G {S with maps:=maps,jD:=jD} a w':=by refine⟨hm,h.lR,λi vals fr h1 h2=>?_,h.kP,λi k r st h1 h2=>?_,h.lS,h.yl,h.mD,?_,h.Be.of keep⟩;obtain⟨h3,h4⟩:=h.bM i vals fr h1 h2;simp_all;obtain⟨h3,h4⟩:=h.loops i k r st h1 h2;grind;obtain⟨ms,h1,h2,h3⟩:=h.marks;grind
theorem Qm {α:Type}{ob o:Nat}{c x:α}:∀{l:List (Nat×α)},getM (vG l ob c) o=some x->(o=ob/\x=c)\/(o≠ob/\getM l o=some x):=by
 intro l;induction l with
 |nil=>intro h;cases h
 |cons p l ih=>obtain⟨u,i⟩:=p;intro h;simp only[vG]at h;split at h;rename_i hb;obtain rfl:=aN hb;simp only[getM]at h⊢;split at h;simp_all;grind;rename_i hb;simp only[getM]at h⊢;grind
theorem bA.NN (hs:bA E G S a w){ob b gL BM:Nat}{es es':List MapEntry}{l':List (AV×FV)}(hb:G.mp ob=some b)(hh:w.heap[b]?=some (.map es.toArray gL))(Du:qb es' BM)(hlen:es'.length=l'.length)(hent:∀(i:Nat)(e:MapEntry)(p:AV×FV),es'[i]?=some e->l'[i]?=some p->dH G.br w e.key p.1/\aU G w e.val p.2)(Tf:∀(T:TypeId)(z:Nat)(k:Option AV),getM E.C.ex.Nk ob=some (T,z,k)->∀(i:Nat)(e:MapEntry)(p:AV×FV),es'[i]?=some e->l'[i]?=some p->k≠some p.1->EN G T z ob e):bA E G {S with maps:=vG S.maps ob l'} a (w.putObj b (.map es'.toArray BM)):=by
 have hm:=hs.ext'.mps;obtain⟨q1,q2,-⟩:=hm.loc ob b hb;refine hs.putObj (cO:=S.cO) (jD:=S.jD) (defers:=a.defers) (mD:=E.mD) (bM:=E.bM) (loops:=E.loops) (fixed:=E.fixed) hh rfl rfl (E.CR q1) (λ_=>q2 0) λkeep ET qS=>?_;have hkp:∀v x,dH G.br w v x->dH G.br (w.putObj b (.map es'.toArray BM)) v x:=λv x hv=>(keep v (.p x) (.p v x hv)).plain;refine Ext.zx (E:=E) hs.ext' hh ⟨λr=>by simp,λd=>by simp⟩ keep ET ⟨λo m ho=>?_,λo b' ho=>?_,hm.inj,λq x hx=>?_,λq r hr=>?_,hm.Bn,hm.apart,λo T z k l b0 adF es0 g1 g2 g3 g4 i e p g5 g6 g7=>?_⟩;rcases Qm ho with⟨rfl,rfl⟩|⟨hne,ho⟩;grind;obtain⟨b',adF,es0,h1,h2,h3,h4,h5⟩:=hm.at_ o m ho;exact⟨b',adF,es0,h1,ET b' _ (λe=>hne (hm.inj o ob b' h1 (e▸hb))) h2,h3,h4,λi e p h6 h7=>⟨hkp _ _ (h5 i e p h6 h7).1,keep _ _ (h5 i e p h6 h7).2⟩⟩;obtain⟨h1,h2,es0,c0,h3⟩:=hm.loc o b' ho;grind;obtain⟨r,h1,h2⟩:=hm.jD q x hx;refine⟨r,h1,h2.keep hkp (λ_ h=>h) (λm s seen c h=>ET r _ (λe=>?_) h) (Bt hh λ_=>q2 0)⟩;simp_all;obtain⟨h1,m,s,seen,c,h2⟩:=hm.Bm q r hr;grind;rcases Qm g1 with⟨rfl,rfl⟩|⟨hne,ho⟩;grind;obtain⟨b',Qn,ZP,h1,h2,-⟩:=hm.at_ o l ho;obtain rfl:b'=b0:=by simp_all
 have h3:=ET b' _ (λe=>hne (hm.inj o ob b' h1 (e▸hb))) h2;obtain rfl:=NA h3 g4;exact hm.room o T z k l b' Qn es0 ho g2 h1 h2 i e p g5 g6 g7
theorem bA.adG (hs:bA E G S a w){G':bl}{maps:List (Nat×List (AV×FV))}{jD:List (Nat×(Option (AV×AV)×List (AV×AV)))}(h1:G'.br=G.br)(h2:G'.loc=G.loc)(h3:G'.tail=G.tail)(h4:G'.yl=G.yl)(h5:G'.row=G.row)(hmp:∀o b,G.mp o=some b->G'.mp o=some b)(hit:∀o b,G.it o=some b->G'.it o=some b)(hm:(∀v x,aU G w v x->aU G' w v x)->YP E G' {S with maps:=maps,jD:=jD} w):bA E G' {S with maps:=maps,jD:=jD} a w:=by have keep:∀v x,aU G w v x->aU G' w v x:=λv x h=>h.keep (λ_ _ h=>h1▸h) (λ_ _ _ _ h=>h) (.refl _ _) (λ_ _ h=>h2▸h) (λ_ _ h=>h3▸h) (λ_ _ h=>h4▸h) hmp hit;refine⟨hs.kept,hs.size,⟨hm keep,hs.ext'.lR,λi vals fr q1 q2=>?_,hs.ext'.kP,hs.ext'.loops,hs.ext'.lS,λi k r q=>by rw[h4];exact hs.ext'.yl i k r q,hs.ext'.mD,hs.ext'.marks,hs.ext'.Be.of keep⟩,⟨λo bs q=>?_,λo r q=>?_,λo r q=>hs.jr.dx o r (h5▸q)⟩,h1▸hs.nS,h1▸hs.fJ,λi hi=>keep _ _ (hs.tmps i hi),λo cs ho=>?_,λo b ho=>?_,λo o' b q q'=>hs.fq o o' b (h2▸q) (h2▸q'),λo t b r q q'=>hs.cL o t b r (h2▸q) (h3▸q'),λt b s e T q=>?_,λt t' b r r' q q'=>hs.ew t t' b r r' (h3▸q) (h3▸q')⟩;obtain⟨q3,q4⟩:=hs.ext'.bM i vals fr q1 q2;simp_all;rw[h2,h5];exact hs.jr.at_ o bs q;rw[h1,h2,h3,h5];exact hs.jr.row o r (h5▸q);obtain⟨b,q1,q2⟩:=hs.aK o cs ho;grind;rw[h1];exact hs.gW o b (h2▸ho);rw[h1];exact hs.gv t b s e T (h3▸q)
theorem NO (hs:bA E G S a w)(q:Nat)(hdn:iK (S.off+q)=false):∃G',bA E G' {(S.kill (S.off+q)).put (some q) (.gw (S.off+q))with maps:=(S.off+q,[])::Bj (FV.kill (S.off+q)) (Bd (S.off+q) S.maps)} (a.put (some q) (.map (some w.heap.size))) (w.alloc (.map #[] 0)):=by
 generalize S.off+q=d at hdn;have hb:Below w.heap.size w (w.alloc (.map #[] 0)):=(Below.refl _ _).alloc (aB _) _;have h1:=(hs.PK hb λ_ _=>False).kill d;let G1:bl:=bl.free {G with br:=λb o=>G.br b o\/(w.heap.size<=b/\b<(w.alloc (.map #[] 0)).heap.size/\False)} d;let G2:bl:={G1 with mp:=λo=>if o=d then some w.heap.size else G1.mp o};have hfree:∀o b,G1.mp o=some b->o≠d/\G.mp o=some b:=λo b h=>by simp only[G1,bl.free]at h;simp_all
 have hold:∀o b,G1.mp o=some b->b<w.heap.size:=λo b h=>by obtain⟨-,-,es,k,h3⟩:=hs.ext'.mps.loc o b (hfree o b h).2;grind
 have CU:∀i,¬G1.br w.heap.size i:=λi h=>by rcases h with h|⟨-,-,h⟩;have :=hs.fJ _ _ h;omega;omega
 have h2:bA E G2 {S.kill d with maps:=(d,[])::Bj (FV.kill d) (Bd d S.maps),jD:=Bd d S.jD} a (w.alloc (.map #[] 0)):=by refine h1.adG (G':=G2) rfl rfl rfl rfl rfl (λo b h=>?_) (λ_ _ h=>h) λkeep=>?_;grind;have hm:=h1.ext'.mps;refine⟨λo l ho=>?_,λo b ho=>?_,λo o' b q1 q2=>?_,hm.jD,hm.Bm,hm.Bn,λo o' b q1 q2=>?_,λo T z k l b gL es g1 g2 g3 g4 i e p g5 g6 g7=>?_⟩;simp only[getM]at ho;split at ho;rename_i hq;obtain rfl:=aN hq;obtain rfl:=aq ho;exact⟨w.heap.size,0,[],by grind,World.alloc_heap_new w _,⟨by simp,by simp⟩,rfl,by simp⟩;obtain⟨b,gL,es,q1,q2,q3,q4,q5⟩:=hm.at_ o l ho;grind;simp only[G2]at ho;split at ho;obtain rfl:=aq ho;exact⟨.inl ⟨hs.kept.size,by simp_all⟩,CU,_,_,World.alloc_heap_new w _⟩;exact hm.loc o b ho;simp only[G2]at q1 q2;split at q1<;>split at q2;omega;grind;grind;exact hm.inj o o' b q1 q2;simp only[G2]at q1;split at q1;obtain rfl:=aq q1;simp only[G2,G1,bl.free]at q2;split at q2;grind;have :=(hs.gW o' _ q2).1;omega;exact hm.apart o o' b q1 q2;simp only[getM]at g1;split at g1;simp_all;rename_i hne;have hne:o≠d:=eY (bH hne);simp only[G2]at g3;rw[af hne]at g3;exact hm.room o T z k l b gL es g1 g2 g3 g4 i e p g5 g6 g7
 exact⟨G2,h2.put (some q) (v:=.map (some w.heap.size)) (x:=.gw d) (.gw d _ (by grind))⟩
end
theorem uX {α:Type}(k:AV)(x:α)(l:List (AV×α)):HR k x l=match iL k (iP l)with|some j=>l.set j (k,x)|none=>l++[(k,x)]:=by
 induction l with
 |nil=>rfl
 |cons p l ih=>obtain⟨k',y⟩:=p;simp only[HR,iP,iL];grind
theorem uY {k:AV}:∀{ks:List AV}{j:Nat},iL k ks=some j->∃h:j<ks.length,ks[j]=k
 |[],j,h=>by simp[iL]at h
 |x::ks,j,h=>by
  simp only[iL]at h;split at h;rename_i hs;obtain rfl:=aq h;exact⟨by simp,(Zx hs).symm⟩;cases hq:iL k ks with
  |none=>simp_all
  |some m=>simp only[hq,eW,bN]at h;subst h;obtain⟨h1,h2⟩:=uY hq;simp_all
section
variable {E:Env}{G:bl}{S:an}{a:Act}{w:World}{o:Oper}
theorem wp_makeMap (hs:bA E G S a w){d:Nat}{t:TypeId}{K:an->Prop}(ho:o.op=.makeMap t none)(hd:o.dst=some d)(h:Nu S d K){next:Act->World->Prop}{Q:Exit->Act->World->Prop}(hn:∀S' a' w',K S'->nT E S' a' w'->next a' w'):BP E o a w next Q:=by unfold Nu at h;rw[jX]at h;obtain⟨hdn,h⟩:=h;obtain⟨G',hg⟩:=NO hs d hdn;refine wp_value (v:=.map (some w.heap.size)) (w':=w.alloc (.map #[] 0)) ?_ (hn _ _ _ h ⟨G',hd▸hg⟩);have :(Instr.makeMap t none).run E.C.P w=.ok (.map (some w.heap.size)) (w.alloc (.map #[] 0)):=rfl;simp[execOp,ho,this]
theorem Tg {P:Program}{t kT eT:TypeId}(hu:P.underlying t=some (.map kT eT)){L:List gZ}(hL:fB P 40 kT=some L){k:AV}(hk:iJ (iw P kT) L k=true){b gL:Nat}{es:List MapEntry}(hb:w.heap[b]?=some (.map es.toArray gL)){ks:List AV}(hks:tf (iw P kT) L es ks)(v:Value):∃(es':List MapEntry) (BM:Nat),(Instr.mapUpdate t (.map (some b)) (tv (iw P kT) k.cells) v).run P w=.ok () (w.putObj b (.map es'.toArray BM))/\(qb es gL->qb es' BM)/\match iL k ks with|some j=>es'.length=es.length/\∀i e',es'[i]?=some e'->if i=j then e'.key=tv (iw P kT) k.cells/\e'.val=v/\∃e0,es[j]?=some e0/\e'.born=e0.born else es[i]?=some e'|none=>∃e',es'=es++[e']/\e'.key=tv (iw P kT) k.cells/\e'.val=v/\e'.born=gL:=by
 have NH:=(td (P:=P) (em:=false) 40).1 kT L 10000 w k.cells dD hL (mo hk);have hfind:=wZ (w:=w) dD hL hk hks;have hg:(Go.getObj b).run P w=.ok (.map es.toArray gL) w:=by simp[Go.getObj,Sem.run,hb]
 have BO:∀o',(Go.setObj b o').run P w=.ok () (w.putObj b o'):=λo'=>by simp[Go.setObj,Sem.run,hb,World.putObj]
 cases fZ:iL k ks with
 |none=>
  rw[fZ]at hfind;refine⟨es++[({key:=tv (iw P kT) k.cells,val:=v,born:=gL}:MapEntry)],gL+1,?_,λhf=>⟨λe he=>?_,?_⟩,_,rfl,rfl,rfl,rfl⟩;have he:(es++[({key:=tv (iw P kT) k.cells,val:=v,born:=gL}:MapEntry)]).toArray=es.toArray.push {key:=tv (iw P kT) k.cells,val:=v,born:=gL}:=by simp
  rw[he];simp[Instr.mapUpdate,run_underlying hu,hg,NH,hfind,found,BO];rcases bk.1 he with he|he;have :=hf.lt e he;omega;simp_all;rw[aD,og];refine⟨hf.nd,by simp,λx hx y hy=>?_⟩;obtain⟨e,he,rfl⟩:=aJ.1 hx;have :=hf.lt e he;grind
 |some j=>
  rw[fZ]at hfind;obtain⟨hj,hkj⟩:=uY fZ;have YR:j<es.length:=by have :=hks.1;omega
  obtain⟨k1,k2⟩:=hks.2 j _ _ (ay YR) (ay hj);rw[hkj]at k1;refine⟨(es.toArray.modify j λe=>{e with key:=tv (iw P kT) k.cells,val:=v}).toList,gL,?_,λhf=>⟨λe he=>?_,?_⟩,by simp,λi e' he=>?_⟩;rw[Ds];simp[Instr.mapUpdate,run_underlying hu,hg,NH,hfind,found,YR,k1,Da hk,BO];obtain⟨i,hi⟩:=iX he;rw[tj,iY]at hi;split at hi;rename_i e;subst e;simp only[Dv,ay YR,eW,bN]at hi;subst hi;have :=hf.lt _ (aQ YR);omega;exact hf.lt _ (bW (by simpa using hi));have :((es.toArray.modify j λe=>{e with key:=tv (iw P kT) k.cells,val:=v}).toList.map (·.born))=es.map (·.born):=by apply gz;intro i;rw[aM,tj,iY,aM];split;grind;simp
  rw[this];exact hf.nd;grind
theorem wp_upd (hs:bA E G S a w){t:TypeId}{m k x:Operand}{K:an->Prop}(ho:o.op=.mapUpdate t m k x\/o.op=.insert t m k x)(h:Vj E.C S o.dst t (S.val m) (S.val k) (S.val x) K){next:Act->World->Prop}{Q:Exit->Act->World->Prop}(hn:∀S' a' w',K S'->nT E S' a' w'->next a' w'):BP E o a w next Q:=by
 have hm:=aU.val hs m;have YU:=aU.val hs k;have hx:=aU.val hs x;unfold Vj at h;split at h;rename_i kT eT _ ht;have hu:=(E.C.ok ht).map;split at h;rename_i ob vQ;rw[vQ]at hm;split at h;rename_i ki kk l hki hkk hl;obtain⟨L,hL,hk,hall,l',hl',h⟩:=h;obtain⟨hro,h⟩:(∀T z k,getM E.C.ex.Nk ob=some (T,z,k)->k=some kk)/\K ((S.Lt (vG S.maps ob l')).put o.dst (.p (.eN []))):=by grind
 have hagg:=(E.C.ok hki).iw;rw[<-hagg]at hk hall;have hkey:=tZ (YU.fA hkk) hk;generalize LD:a.eval m=vm at hm;cases hm with
 |gw _ b hb=>
  obtain⟨b',gL,es,h1,h2,h3,h4,h5⟩:=hs.ext'.mps.at_ ob l hl;rw[hb]at h1;obtain rfl:=aq h1;have hka:=NG (w:=w) h4 (λi e p a b=>(h5 i e p a b).1) hall;obtain⟨es',BM,hrun,Du,hent⟩:=Tg (w:=w) hu hL hk h2 hka (a.eval x);have aiv:(execOp a.eval o).run E.C.P w=.ok .skip (w.putObj b (.map es'.toArray BM)):=by rcases ho with ho|ho<;>simp[execOp,ho,LD,hkey,hrun]
  have hg:=hs.NN (l':=l') hb h2 (Du h3) (by rw[<-hl',uX];grind) (by
   intro i e p he hp;rw[<-hl',uX]at hp;cases fZ:iL kk (iP l)with
   |none=>
    rw[fZ]at hent hp;simp only at hp;obtain⟨e',rfl,q1,q2,-⟩:=hent;by_cases hi:i<es.length;grind;rw[dN oO]at he;rw[dN oO,<-h4]at hp;cases hz:i-es.length with
    |zero=>rw[hz]at he hp;simp at he hp;subst he;subst hp;exact⟨by rw[q1,<-hkey];exact YU.fA hkk,by simp_all⟩
    |succ z=>simp_all
   |some j=>
    rw[fZ]at hent hp;simp only at hp;have :=hent.2 i e he;by_cases e0:i=j;subst e0;rw[ag rfl]at this;have FQ:i<l.length:=by have :=(aI.1 hp).1;simpa using this
    rw[List.getElem?_set_self FQ]at hp;obtain rfl:=aq hp;exact⟨by rw[this.1,<-hkey];exact YU.fA hkk,by simp_all⟩;grind) (λT z k0 agA i e p he hp hne=>by
   rw[hro T z k0 agA]at hne;rw[<-hl',uX]at hp;cases fZ:iL kk (iP l)with
   |none=>rw[fZ]at hent hp;simp only at hp;obtain⟨e',rfl,q1,q2,-⟩:=hent;by_cases hi:i<es.length;rw[cF hi]at he;rw[cF oO]at hp;exact hs.ext'.mps.room ob T z k0 l b gL es hl agA hb h2 i e p he hp (by simp_all);grind
   |some j=>rw[fZ]at hent hp;simp only at hp;have :=hent.2 i e he;by_cases e0:i=j;grind;rw[af e0]at this;rw[Dj (eY e0)]at hp;exact hs.ext'.mps.room ob T z k0 l b gL es hl agA hb h2 i e p this hp (by simp_all))
  refine⟨λf _=>Env.gD f,?_⟩;rw[Oper.semAt_eq _ _ _ (λc=>by grind),aiv];exact hn _ _ _ h ⟨G,hg.put o.dst (v:=undef) (.p _ _ (dH.eN (br:=G.br) [] [] rfl (λi c x h _=>by simp_all)))⟩
 simp_all;simp_all;simp_all
theorem EU {d o:Nat}{z:AV}{cells:List FV}:∀{l:List (Nat×List FV)},Qv.getObj (EI d z l) o=some cells->∃cs,Qv.getObj l o=some cs/\cells=FV.YO d z cs:=by
 intro l;induction l with
 |nil=>intro h;cases h
 |cons p l ih=>obtain⟨u,i⟩:=p;intro h;simp only[EI,Qv.getObj]at h⊢;grind
theorem Ip {d o:Nat}{z:AV}{l:List (Nat×List FV)}(h:Qv.getObj l o=none):Qv.getObj (EI d z l) o=none:=by
 cases h':Qv.getObj (EI d z l) o with
 |none=>rfl
 |some cs=>obtain⟨cs',h2,-⟩:=EU h';simp_all
theorem bA.Th (hs:bA E G S a w){d:Nat}{ks vs:List AV}(hf:Zl S d ks vs):∃G',bA E G' (S.Pv d (.mp ks vs)) a w/\∀v x,aU G w v x->aU G' w v (x.fm d (.mp ks vs)):=by
 obtain⟨l,hl,rfl,hv⟩:=hf.mp;have hm:=hs.ext'.mps;obtain⟨hdn,hl⟩:=WE hl;obtain⟨B,gL,es,h1,h2,h3,h4,h5⟩:=hm.at_ d l hl;obtain⟨q1,q2,-⟩:=hm.loc d B h1;have q1:=E.HX q1 hdn;obtain⟨hlen,vX⟩:=FV.jk hv;let G':bl:={G with br:=λb o=>G.br b o\/(b=B/\o=0),mp:=λo=>if o=d then none else G.mp o};have agB:=(bz.1 h2).1;have kp:∀{v:Value}{y:AV},dH G.br w v y->dH G'.br w v y:=λhv=>hv.keep (λb o h=>.inl h) (λ_ _ _ _ h=>h) (.refl _ _);have fmp:∀o b,G'.mp o=some b->o≠d/\G.mp o=some b:=λo b h=>by grind
 have hz:dH G'.br w (.map (some B)) (.mp (iP l) vs):=by
  refine .mp B gL es (iP l) vs (by rw[nY,aj];omega) (by rw[hlen,AG,aj];omega) (.inr ⟨rfl,rfl⟩) h2 h3 (λi e x he hx=>?_) (λi e x he hx=>?_);rw[nY,aM]at hx;grind;obtain⟨y,hy,hyx⟩:=vX i x hx;rw[AG,aM]at hy;cases hp:l[i]?with
  |none=>simp_all
  |some p=>simp only[hp,eW,bN]at hy;subst hy;exact kp ((h5 i e p he hp).2.fA hyx)
 have up:∀v x,aU G w v x->aU G' w v (x.fm d (.mp (iP l) vs)):=λv x hv=>hv.fm (λb o h=>.inl h) (λb hb=>by simp_all) (λ_ _ h=>h) (λ_ _ h=>h) (λ_ _ h=>h) (λo b hne h=>by grind) (λ_ _ h=>h);have HY:mj (FV.fm d (.mp (iP l) vs)) G G' S (S.Pv d (.mp (iP l) vs)) w:=by refine⟨λ_=>rfl,λo l' h=>?_,λq x h=>⟨h,λ_ h=>h⟩,λo b h=>(fmp o b h).2,λ_ _ h=>h,λb i es' k hb ho h=>?_,λ_ h=>.inl h,λ_ _ h=>.inl h,λ_ _ h=>h⟩;obtain⟨l0,g1,g2⟩:=xo h;obtain⟨g3,g4⟩:=qj g1;grind;rcases h with h|⟨rfl,-⟩;omega;obtain⟨o,ho⟩:=ho;obtain⟨g1,g2⟩:=fmp o _ ho;exact absurd (hm.inj o d _ g2 h1) g1
 refine⟨G',⟨hs.kept,hs.size,hs.ext'.move (S':=S.Pv d (.mp (iP l) vs)) (FV.fm d (.mp (iP l) vs)) rfl rfl rfl up (.refl _) HY,?_,?_,?_,λi hi=>up _ _ (hs.tmps i hi),λo cs ho=>?_,λo b ho=>?_,hs.fq,λo t b r h h'=>lX.mono (hs.cL o t b r h h') (λbs q=>⟨bs,q⟩) (λcs q=>?_),λt b s e T h=>?_,hs.ew⟩,up⟩;refine hs.jr.keep rfl rfl (λo bs q=>⟨q,rfl,rfl⟩) (λo _ _ q=>Ip q) (λ_ _ e=>e) (aB _) (λ_ _ _ _ _ _=>rfl) (λ_ _ _=>rfl) (λo r i e hi=>?_) (λ_ _ o' _ e=>e) (λ_ _ t q _ e=>⟨t,q,e⟩);rcases hi with hi|⟨rfl,-⟩;omega;obtain⟨cs,T,fr,g⟩:=hs.jr.dx o _ e;simp_all;rintro b o (h|⟨rfl,-⟩);exact hs.nS b o h;omega;rintro b o (h|⟨rfl,-⟩);exact hs.fJ b o h;omega;obtain⟨cs0,g2,rfl⟩:=EU ho;obtain⟨b,g3,g4⟩:=hs.aK o cs0 g2;refine⟨b,g3,λi x hx=>?_⟩;rw[FV.wP,aM]at hx;grind;obtain⟨k1,k2,k3⟩:=hs.gW o b ho;refine⟨k1,k2,λi=>⟨?_,(k3 i).2⟩⟩;rintro(h|⟨rfl,-⟩);simp_all;exact hm.apart d o _ h1 ho;obtain⟨cs0,g2,rfl⟩:=EU q;exact⟨cs0,g2,by rw[FV.wP,aj]⟩;obtain⟨k1,k2,⟨cs,fr,kt,ku⟩,k3⟩:=hs.gv t b s e T h;grind
theorem bA.Pv (hs:bA E G S a w){d:Nat}{ks vs:List AV}(hf:Zl S d ks vs):∃G',bA E G' (S.Pv d (.mp ks vs)) a w:=let⟨G',h,_⟩:=hs.Th hf;⟨G',h⟩
end
end Qv
